/- A part of the proof: its steps, joined out of smaller texts. -/
import Derived.Test.YtejdmofljifkbaaGreatDoorAi2
import Derived.Laws.ResultCell
import Derived.Lib.QuietBelow
import Derived.Lib.OthersKept
import Derived.RangeFuncNested
import Derived.RangeFuncBound
import Derived.RangeFuncCalls
import Derived.RangeFuncLeaves
import Derived.Shelf.Abstract
import Derived.Shelf.RegionOpen
import Derived.OwnWalkIn
import Derived.TacticsInMore
import Derived.LoopNIn
import Derived.LoopIn
set_option linter.unusedVariables false
set_option linter.unusedSimpArgs false
namespace Go.Proofs.YtejdmofljifkbaaGreatDoor.Gl
open Go.RowKit Go.Proofs.YtejdmofljifkbaaGreatDoorW.PrintWords Go.Proofs.YtejdmofljifkbaaGreatDoorW.PrintLast Go.Proofs.YtejdmofljifkbaaGreatDoorW.PrintMore
set_option linter.unusedSimpArgs false
set_option linter.unusedVariables false
theorem pre1 (l : List UInt8) (c : UInt8) : Lib.hasPrefix l [c] = (l.head? == some c) := by
 cases l with
 | nil => rfl
 | cons a t =>
  show ([c].isPrefixOf (a :: t)) = _
  rw [List.head?_cons, Bool.eq_iff_iff]
  simp [List.isPrefixOf]
  exact eq_comm
theorem has1 (l : List UInt8) (c : UInt8) (w : World) : Calls Tryz.prog 112 #[.string (tx l), .string ⟨#[c]⟩] w fun e w' => e = .returned (.bool (l.head? == some c)) ∧ w = w' := by
 refine (Tryz.strings_HasPrefix _ _ w).mono ?_
 rintro e w' ⟨rfl, rfl⟩
 refine ⟨?_, rfl⟩
 show Ending.returned (.bool (Lib.hasPrefix l [c])) = _
 rw [pre1]
theorem cut1 (l : List UInt8) (c : UInt8) (w : World) : Calls Tryz.prog 154 #[.string (tx l), .string ⟨#[c]⟩] w fun e w' =>
  e = .returned (.tuple #[.string (tx (if l.head? = some c then l.tail else l)), .bool (l.head? == some c)]) ∧ w = w' := by
 refine (Tryz.strings_CutPrefix _ _ w).mono ?_
 rintro e w' ⟨rfl, rfl⟩
 refine ⟨?_, rfl⟩
 show Ending.returned (.tuple #[.string ⟨(Lib.trimPrefix l [c]).toArray⟩, .bool (Lib.hasPrefix l [c])]) = _
 unfold Lib.trimPrefix
 rw [pre1]
 have e : (if (l.head? == some c) = true then l.drop [c].length else l) = if l.head? = some c then l.tail else l := by
  by_cases h : l.head? = some c
  ·rw [if_pos (by simpa using h), if_pos h]; exact List.drop_one
  ·rw [if_neg (by simpa using h), if_neg h]
 rw [e]
 rfl
def Pb (w : World) (H : Nat) (x : Pc) : Prop := w.heap[H]? = some (.cells (pcs x).toArray 172 (0, 0))
theorem Pb.cell {w : World} {H : Nat} {k : Int} {f : List Bool} (h : Pb w H (k, f)) (hf : f.length = 256) (i : Nat) (hi : i < 256) : w.cell? ⟨H, 1 + i, none⟩ = some (.bool (f.getD i false)) := by
 rw [cell_of_row w H (1 + i) _ 172 (0, 0) h, Nat.add_comm]
 simp only [pcs, List.getElem?_toArray, List.getElem?_cons_succ, List.getElem?_map]
 rw [List.getD_eq_getElem?_getD, List.getElem?_eq_getElem (by omega)]
 rfl
theorem Pb.kind {w : World} {H : Nat} {k : Int} {f : List Bool} (h : Pb w H (k, f)) : w.cell? ⟨H, 0, none⟩ = some (.int .i64 k) := by
 rw [cell_of_row w H 0 _ 172 (0, 0) h]
 rfl
theorem Pb.fr {w : World} {H : Nat} {x : Pc} (h : Pb w H x) (i : Nat) : w.frozen? ⟨H, i, none⟩ = false := frozen_of_row w H i _ 172 h
theorem Pb.set {w : World} {H : Nat} {k : Int} {f : List Bool} (h : Pb w H (k, f)) (i : Nat) (c : Bool) : Pb (w.setCell ⟨H, 1 + i, none⟩ (.bool c)) H (k, f.set i c) := by
 have := heap_setCell_same w H (1 + i) _ 172 (.bool c) h
 rw [pcs_set] at this
 exact this
theorem Pb.lt {w : World} {H : Nat} {x : Pc} (h : Pb w H x) : H < w.heap.size := by
 unfold Pb at h
 exact (Array.getElem?_eq_some_iff.1 h).1
theorem Pb.range {w : World} {H : Nat} {x : Pc} (h : Pb w H x) : w.rangeAt H 0 (pcs x) := by
 intro j u hu
 have := World.news_of_block (cs := (pcs x).toArray) (t := 172) (fr := (0, 0)) h j u hu
 rwa [Addr.add_mid] at this
theorem Pb.ne {w w0 : World} {H B g : Nat} {x : Pc} {l : List UInt8} {ps : List Pc} {b : Bool} {v : Value} (h : Pb w H x) (hS : CS w0 w B g l ps b v) : H ≠ g := by
 rintro rfl
 have hb := hS.blk
 unfold Cm at hb
 unfold Pb at h
 rw [hb] at h
 injection h with h
 injection h with _ ht
 exact absurd ht (by decide)
theorem Pb.kept {w w1 : World} {H g : Nat} {x : Pc} (h : Pb w H x) (hg : w.grownBy w1 (some g)) (hne : H ≠ g) : Pb w1 H x :=
 (hg.block H h.lt (fun e => hne (by injection e))).trans h
theorem CS.far {w0 w : World} {B g H : Nat} {x : Pc} {l : List UInt8} {ps : List Pc} {b : Bool} {v : Value} (hS : CS w0 w B g l ps b v) (h : Pb w H x) (hB : B ≤ H) (hv : v.ownBlock ≠ some H) (i : Nat) (u : Value) :
  CS w0 (w.setCell ⟨H, i, none⟩ u) B g l ps b v :=
 ⟨(Below.heap_setCell w _ u g (fun e => h.ne hS e.symm)).trans hS.blk, hS.hg, own_move hS.own (fun k hk => Below.heap_setCell w _ u k (by rintro rfl; exact hv hk)), hS.bel.setCell hB u, hS.len⟩
def rngS (f : List Bool) (a n : Nat) : List Bool := (List.range n).foldl (fun f j => f.set (a + j) true) f
theorem rngS_succ (f : List Bool) (a n : Nat) : rngS f a (n + 1) = (rngS f a n).set (a + n) true := by simp [rngS, List.range_succ]
theorem rngS_len (f : List Bool) (a n : Nat) : (rngS f a n).length = f.length := by
 induction n with
 | zero => rfl
 | succ n ih => rw [rngS_succ, List.length_set, ih]
def partLo (l : List UInt8) : UInt8 := memC l
def partTwo (l : List UInt8) : Bool := (memR l).head? == some 45
def partHi (l : List UInt8) : UInt8 := if partTwo l then memC (memR l).tail else memC l
def partR (l : List UInt8) : List UInt8 := if partTwo l then memR (memR l).tail else memR l
def partB (l : List UInt8) : Bool := if partTwo l then memB l || memB (memR l).tail else memB l
def partBad (l : List UInt8) : Bool := partB l || decide ((partHi l).toNat < (partLo l).toNat)
def setL : Nat → Bool → List UInt8 → List Bool → Option (Option (List UInt8 × List Bool))
 | 0, _, _, _ => none
 | k + 1, first, l, f => if first = false ∧ l.head? = some 93 then some (some (l, f)) else
  if partBad l = true then some none else setL k false (partR l) (rngS f (partLo l).toNat ((partHi l).toNat + 1 - (partLo l).toNat))
def flip (f : List Bool) (k : Nat) : List Bool := (f.take k).map (!·) ++ f.drop k
theorem flip_len (f : List Bool) (k : Nat) : (flip f k).length = f.length := by simp [flip]; omega
theorem flip_succ (f : List Bool) (k : Nat) (h : k < f.length) : (flip f k).set k (!((flip f k).getD k false)) = flip f (k + 1) := by
 have h1 : ((f.take k).map (!·)).length = k := by simp; omega
 have hd : f.drop k = f[k] :: f.drop (k + 1) := List.drop_eq_getElem_cons h
 have e1 : (flip f k).getD k false = f[k] := by
  rw [List.getD_eq_getElem?_getD]
  unfold flip
  rw [List.getElem?_append_right (by omega), h1, Nat.sub_self, hd]
  rfl
 rw [e1]
 unfold flip
 rw [List.set_append_right _ _ (by omega), h1, Nat.sub_self, hd, List.set_cons_zero, List.take_succ_eq_append_getElem h, List.map_append, List.append_assoc]
 rfl
def fin47 (f : List Bool) (not : Bool) : List Bool := (if not then flip f 256 else f).set 47 false
def setStart (l : List UInt8) : List UInt8 := if l.head? = some 33 then l.tail else l
def setNot (l : List UInt8) : Bool := l.head? == some 33
theorem cutBang (l : List UInt8) (w : World) : Calls Tryz.prog 154 #[.string (tx l), .string ⟨#[33]⟩] w fun e w' => e = .returned (.tuple #[.string (tx (setStart l)), .bool (setNot l)]) ∧ w = w' := cut1 l 33 w
theorem CS.alloc {w0 w : World} {B g : Nat} {l : List UInt8} {ps : List Pc} {b : Bool} {v : Value} (h : CS w0 w B g l ps b v) (o : Obj) : CS w0 (w.alloc o) B g l ps b v :=
 ⟨(Below.heap_alloc w _ g h.glt).trans h.blk, h.hg, h.own.alloc _, h.bel.alloc (Nat.le_trans h.hg (Nat.le_of_lt h.glt)) _, h.len⟩
def SetPost (w0 w' : World) (B g : Nat) (ps : List Pc) (not : Bool) : Option (List UInt8 × List Bool) → Prop
 | none => ∃ l' v', CS w0 w' B g l' ps true v'
 | some (l2, f) => ∃ v', CS w0 w' B g l2.tail (ps ++ [(0, fin47 f not)]) false v'
set_option maxRecDepth 100000 in
set_option maxHeartbeats 3200000 in
theorem set_any {w0 w : World} {B g : Nat} {L : List UInt8} {ps : List Pc} {v : Value} (K : Nat) (r : Option (List UInt8 × List Bool)) (hr : setL K true (setStart L) zs = some r) (h : CS w0 w B g L ps false v) (hlenA : (ps.length + 1) * 264 ≤ 140737488355328) :
  Calls Tryz.prog 129 #[.pointer (some ⟨g, 0, none⟩)] w fun e w' => e = .returned (.tuple #[]) ∧ SetPost w0 w' B g ps (setNot L) r := by
 have hB : B ≤ w.heap.size := Nat.le_trans h.hg (Nat.le_of_lt h.glt)
 have HR := Lib.hid hr
 clear hr
 have hS1 := h.set (i := 0) (h.blk.s0 (setStart L))
 have hS0 : CS w0 ((w.setCell ⟨g, 0, none⟩ (.string (tx (setStart L)))).alloc (.cells Tryz.zeroCells172 172)) B g (setStart L) ps false v := hS1.alloc _
 have hP0 : Pb ((w.setCell ⟨g, 0, none⟩ (.string (tx (setStart L)))).alloc (.cells Tryz.zeroCells172 172)) w.heap.size (0, zs) := by
  rw [zero65]
  have h1 := heap_alloc_new (w.setCell ⟨g, 0, none⟩ (.string (tx (setStart L)))) (.cells (pcs (0, zs)).toArray 172)
  have h2 : (w.setCell ⟨g, 0, none⟩ (.string (tx (setStart L)))).heap.size = w.heap.size := by simp [World.setCell]
  rw [h2] at h1
  exact h1
 have hv0 : v.ownBlock ≠ some w.heap.size := fun e => by have := own_lt h.own _ e; omega
 have hc0' := h.blk.c0
 have hf0' := h.blk.fr 0
 have hgl := h.glt
 have HP0 := Lib.hid hP0
 have HS0 := Lib.hid hS0
 have HV0 := Lib.hid hv0
 clear hP0 hS0 hv0 h hS1
 obtain ⟨not, hn⟩ : ∃ b, setNot L = b := ⟨_, rfl⟩
 rw [hn]
 have HN := Lib.hid hn
 clear hn
 go_enter Tryz.func129, Tryz.ntmps129
 go_wp2_with fail
 refine (cutBang _ _).mono ?_
 rintro e w' ⟨rfl, rfl⟩
 rw [HN.out]
 clear HN
 go_wp2_with fail
 have hP := HP0.out
 have hS := HS0.out
 have hv := HV0.out
 clear hc0' hf0' hgl HP0 HS0 HV0
 generalize (w.setCell ⟨g, 0, none⟩ (.string (tx (setStart L)))).alloc (.cells Tryz.zeroCells172 172) = W1 at *
 generalize hH : w.heap.size = H at *
 have hHB : B ≤ H := by omega
 clear hB hH
 generalize setStart L = l1 at *
 clear w
 go_loopg [5] K (fun gk v5 w' => ∃ (first : Bool) (l1 : List UInt8) (f : List Bool), v5 = .bool first ∧ CS w0 w' B g l1 ps false v ∧ Pb w' H (0, f) ∧ f.length = 256 ∧ Aside0 (setL gk first l1 f = some r) ∧ gk ≤ K)
 case atStart => exact ⟨true, l1, zs, rfl, hS, hP, zs_len, ⟨HR.out⟩, Nat.le_refl _⟩
 case round =>
  clear hS hP HR
  obtain ⟨first, l, f, rfl, hS, hP, hf, hR, hk⟩ := hrel
  have HF := Lib.hid hf
  clear hf
  cases gk with
  | zero => exact absurd hR.out (by simp [setL])
  | succ k =>
   have hR1 := hR.out
   clear hR
   simp only [setL] at hR1
   have hc0 := hS.blk.c0
   by_cases hstop : first = false ∧ l.head? = some 93
   ·rw [if_pos hstop] at hR1
    have hR2 := Option.some.inj hR1
    have HR2 := Lib.hid hR2
    clear hR1 hR2
    obtain ⟨rfl, hh⟩ := hstop
    have q : (l.head? == some 93) = true := by rw [hh]; rfl
    have hemp : l.isEmpty = false := by cases l with | nil => cases hh | cons a t => rfl
    have HQ := Lib.hid q
    have HE := Lib.hid hemp
    clear q hemp hh
    go_wp2_with fail
    refine (has1 l 93 _).mono ?_
    rintro e w' ⟨rfl, rfl⟩
    rw [HQ.out]
    go_wp2_with fail
    refine (take_any hS).mono ?_
    rintro e w1 ⟨rfl, hS1, k1⟩
    have hP1 := hP.kept k1 (hP.ne hS)
    rw [HE.out] at hS1
    clear hS hP hc0 k1
    go_upto_if 68 with (fail)
    go_cut [] (fun wc => CS w0 wc B g l.tail ps false v ∧ Pb wc H (0, if not then flip f 256 else f))
    case first =>
     cases not with
     | false =>
      go_wp2
      go_meet
      case rel => exact ⟨hS1, hP1⟩
     | true =>
      go_wp2
      go_loopw [69, 9] (fun i _ wr => ∃ j : Nat, j ≤ 256 ∧ i = .int .i64 (j : Int) ∧ CS w0 wr B g l.tail ps false v ∧ Pb wr H (0, flip f j)) (fun i _ _ => (256 - intOf i).toNat)
      case atStart => exact ⟨0, by omega, rfl, hS1, by simpa [flip] using hP1⟩
      case round =>
       clear hS1 hP1
       obtain ⟨j, hj, rfl, hS1, hP1⟩ := hrel
       by_cases hj2 : j < 256
       ·have hfl : (flip f j).length = 256 := by rw [flip_len]; exact HF.out
        have hcj := hP1.cell hfl j hj2
        have hfj := hP1.fr (1 + j)
        have hP2 := hP1.set j (!((flip f j).getD j false))
        rw [flip_succ f j (by rw [HF.out]; exact hj2)] at hP2
        have hS2 := hS1.far hP1 hHB hv (1 + j) (.bool (!((flip f j).getD j false)))
        have HP2 := Lib.hid hP2
        have HS2 := Lib.hid hS2
        have HL := Lib.hid hfl
        clear hP2 hS2 hfl hP1 hS1
        generalize (flip f j).getD j false = bb at *
        go_wp2
        go_roundw
        case rel => exact ⟨j + 1, by omega, by go_num, HS2.out, HP2.out⟩
        case measure => simp [intOf]; omega
       ·obtain rfl : j = 256 := by omega
        go_wp2
        go_meet
        case rel => exact ⟨hS1, hP1⟩
    case rest =>
     obtain ⟨hS2, hP2⟩ := hcut
     clear hS1 hP1
     have hFl : (if not = true then flip f 256 else f).length = 256 := by
      split
      ·rw [flip_len]; exact HF.out
      ·exact HF.out
     have hxe : fin47 f not = (if not = true then flip f 256 else f).set 47 false := rfl
     have HXE := Lib.hid hxe
     clear hxe
     generalize (if not = true then flip f 256 else f) = F at *
     have hc47 : wc.cell? ⟨H, 48, none⟩ = some (.bool (F.getD 47 false)) := hP2.cell hFl 47 (by omega)
     have hf47 : wc.frozen? ⟨H, 48, none⟩ = false := hP2.fr 48
     have hP3 : Pb (wc.setCell ⟨H, 48, none⟩ (.bool false)) H (0, F.set 47 false) := hP2.set 47 false
     have hS3 := hS2.far hP2 hHB hv 48 (.bool false)
     have hx3 : ((0, F.set 47 false) : Pc).2.length = 256 := by rw [List.length_set]; exact hFl
     have HP3 := Lib.hid hP3
     have HS3 := Lib.hid hS3
     have HX3 := Lib.hid hx3
     clear hP3 hS3 hx3 hP2 hS2 hFl
     go_wp2_with fail
     clear hc47 hf47
     have hS := HS3.out
     have hr := HP3.out.range
     obtain ⟨x, hxx⟩ : ∃ x : Pc, x = (0, F.set 47 false) := ⟨_, rfl⟩
     have hx : x.2.length = 256 := by rw [hxx]; exact HX3.out
     rw [← hxx] at hr
     rw [← HXE.out] at hxx
     clear HP3 HS3 HX3
     generalize wc.setCell ⟨H, 48, none⟩ (.bool false) = W1 at *
     obtain ⟨i65, hi65, hzz⟩ := Option.map_eq_some_iff.1 info65
     simp only [Prod.mk.injEq] at hzz
     obtain ⟨hz65, hs65, hb65⟩ := hzz
     refine start_ (n := 11) (S := fun w' => w'.cell? ⟨g, 1, none⟩ = some v ∧ w'.rangeAt H 0 (pcs x)) (ds := [7, 10]) #[false, false, false, false, false, false, false, false, false, false, false] (by kernel_rfl) rfl rfl ⟨(reg_c0 hS), (reg_r0 hr)⟩ (fun hHeld => ?_)
     refine pure_ (i := 0) (N := some 83) (v := ?_) (a' := ?_) #[true, false, false, false, false, false, false, false, false, false, false] rfl rfl (by kernel_rfl) (fun _ _ _ h => h) (Or.inl ⟨by rfl, ?_⟩) ?_ ?_
     rotate_left
     ·intro w'
      go_simp
      with_reducible rfl
     rotate_left
     ·simp only [Act.put, List.setIfInBounds_toArray, List.set_cons_zero, List.set_cons_succ, i64_w, i32_w]
      rfl
     refine pure_ (i := 1) (N := some 84) (v := ?_) (a' := ?_) #[true, true, false, false, false, false, false, false, false, false, false] rfl rfl (by kernel_rfl) (fun _ _ _ h => h) (Or.inl ⟨by rfl, ?_⟩) ?_ ?_
     rotate_left
     ·intro w'
      go_simp
      with_reducible rfl
     rotate_left
     ·simp only [Act.put, List.setIfInBounds_toArray, List.set_cons_zero, List.set_cons_succ, i64_w, i32_w]
      rfl
     refine pure_ (i := 2) (N := some 85) (v := ?_) (a' := ?_) #[true, true, true, false, false, false, false, false, false, false, false] rfl rfl (by kernel_rfl) (fun _ _ _ h => h) (Or.inl ⟨by rfl, ?_⟩) ?_ ?_
     rotate_left
     ·intro w'
      go_simp
      with_reducible rfl
     rotate_left
     ·simp only [Act.put, List.setIfInBounds_toArray, List.set_cons_zero, List.set_cons_succ, i64_w, i32_w]
      rfl
     refine pure_ (i := 3) (N := some 86) (v := ?_) (a' := ?_) #[true, true, true, true, false, false, false, false, false, false, false] rfl rfl (by kernel_rfl) (fun _ _ _ h => h) (Or.inl ⟨by rfl, ?_⟩) ?_ ?_
     rotate_left
     ·intro w'
      go_simp
      with_reducible rfl
     rotate_left
     ·simp only [Act.put, List.setIfInBounds_toArray, List.set_cons_zero, List.set_cons_succ, i64_w, i32_w]
      rfl
     refine take_ (i := 4) (N := some 87) (v := ?_) (a' := ?_) #[true, true, true, true, true, false, false, false, false, false, false] rfl rfl (by kernel_rfl) (fun _ _ _ h => h) (Or.inl ⟨by rfl, ?_⟩) hHeld ?_ ?_
     rotate_left
     ·rintro w' ⟨s0, s1⟩
      go_simp
      with_reducible rfl
     rotate_left
     ·simp only [Act.put, List.setIfInBounds_toArray, List.set_cons_zero, List.set_cons_succ, i64_w, i32_w]
      rfl
     refine take_ (i := 5) (N := some 88) (v := .agg (pcs x).toArray) (a' := ?_) #[true, true, true, true, true, true, false, false, false, false, false] rfl rfl (by kernel_rfl) (fun _ _ _ h => h) (yieldsIf_load_mid (by rfl) 172 (.tmp 2) rfl H 0 rfl (pcs x) _ (fun w' hs => hs.2) Tryz.underlying172 rfl (by rw [pcs_len x hx]; exact size65)) hHeld ?_ ?_
     rotate_left
     ·simp only [Act.put, List.setIfInBounds_toArray, List.set_cons_zero, List.set_cons_succ, i64_w, i32_w]
      rfl
     refine one_ (i := 6) (N := some 89) #[true, true, true, true, true, true, true, false, false, false, false] rfl rfl (by kernel_rfl) (by decide) (fun K hK => ?_)
     refine value_ (w1 := W1.drew.alloc (.cells (pcs x).toArray 172)) (v := .slice (some ⟨W1.heap.size, 0, none⟩) 1 1) (by rfl) rfl ?_ ?_
     ·exact exec_one (.tmp 88) rfl x hx rfl W1.drew
     refine hK.out _ _ ⟨(reg_c hS), (reg_r hr)⟩ (fun hHeld => ?_)
     clear hK K
     refine norm_ (a' := ?_) ?_ ?_
     rotate_left
     ·show Act.put _ (some 89) _ = _
      simp only [Act.put, List.setIfInBounds_toArray, List.set_cons_zero, List.set_cons_succ, i64_w, i32_w]
      rfl
     refine last_ (i := 7) (N := some 90) #[true, true, true, true, true, true, true, true, false, false, false] rfl rfl (by kernel_rfl) (by decide) (fun K hK => ?_)
     refine step_append_lies _ rfl (.tmp 87) (.tmp 89) 142 rfl B 172 i65 _ 257 264 Tryz.underlying142 hi65 hz65 hs65 hb65 (zsz65) (by omega) v ps.length (rowOf ps) rfl (reg_o hS) ⟨W1.heap.size, 0, none⟩ 1 1 (pcs x) rfl (by rw [pcs_len x hx]) (reg_n W1 x) (pcs_one x) (by omega) (by unfold maxLen; omega) hlenA (reg_b hS) _ rfl ?_
     intro g2 cap w2 hown2 hgr2 hat2 hlt2
     have c1 := reg_c2 hS hgr2
     have f1 := reg_f2 hS hgr2
     refine hK.out _ _ ?_
     clear hK K
     refine norm_ (a' := ?_) ?_ ?_
     rotate_left
     ·show Act.put _ (some 90) _ = _
      simp only [Act.put, List.setIfInBounds_toArray, List.set_cons_zero, List.set_cons_succ, i64_w, i32_w]
      rfl
     refine pure_ (i := 8) (N := some 91) (v := ?_) (a' := ?_) #[true, true, true, true, true, true, true, true, true, false, false] rfl rfl (by kernel_rfl) (fun _ _ _ h => h) (Or.inl ⟨by rfl, ?_⟩) ?_ ?_
     rotate_left
     ·intro w'
      go_simp
      with_reducible rfl
     rotate_left
     ·simp only [Act.put, List.setIfInBounds_toArray, List.set_cons_zero, List.set_cons_succ, i64_w, i32_w]
      rfl
     refine pure_ (i := 9) (N := some 92) (v := ?_) (a' := ?_) #[true, true, true, true, true, true, true, true, true, true, false] rfl rfl (by kernel_rfl) (fun _ _ _ h => h) (Or.inl ⟨by rfl, ?_⟩) ?_ ?_
     rotate_left
     ·intro w'
      go_simp
      with_reducible rfl
     rotate_left
     ·simp only [Act.put, List.setIfInBounds_toArray, List.set_cons_zero, List.set_cons_succ, i64_w, i32_w]
      rfl
     refine last_ (i := 10) (N := none) #[true, true, true, true, true, true, true, true, true, true, true] rfl rfl (by kernel_rfl) (by decide) (fun K hK => ?_)
     refine skip_ (w1 := w2.setCell ⟨g, 1, none⟩ (.slice (some ⟨g2, 0, none⟩) (ps.length + 1) cap)) (by rfl) rfl ?_ ?_
     ·go_simp
     refine hK.out _ _ ?_
     clear hK K
     refine done_ (by kernel_rfl) ?_
     go_wp2
     go_end0
     refine ⟨rfl, ?_⟩
     rw [← HR2.out]
     have hfin := hS.push hx hown2 hgr2
     rw [hxx] at hfin
     exact ⟨_, hfin⟩
   ·rw [if_neg hstop] at hR1
    have HR1 := Lib.hid hR1
    clear hR1
    go_upto_region 4 with (fail)
    go_cut [30] (fun v30 wc => v30 = .bool true ∧ wr = wc)
    case first =>
     cases first with
     | true =>
      go_wp2
      go_meet
      case rel => exact ⟨rfl, rfl⟩
     | false =>
      have q : (l.head? == some 93) = false := by
       rw [beq_eq_false_iff_ne]
       exact fun hh => hstop ⟨rfl, hh⟩
      have HQ := Lib.hid q
      clear q hstop
      go_wp2_with fail
      refine (has1 l 93 _).mono ?_
      rintro e w' ⟨rfl, rfl⟩
      rw [HQ.out]
      go_wp2
      go_meet
      case rel => exact ⟨rfl, rfl⟩
    case rest =>
     obtain ⟨rfl, rfl⟩ := hcut
     go_wp2_with fail
     refine (member_any hS).mono ?_
     rintro e w1 ⟨rfl, hS1, k1⟩
     have hP1 := hP.kept k1 (hP.ne hS)
     rw [Bool.false_or] at hS1
     have hc1 := hS1.blk.c0
     clear hS hP hc0 k1 hstop
     go_wp2_with fail
     refine (has1 (memR l) 45 _).mono ?_
     rintro e w' ⟨rfl, rfl⟩
     obtain ⟨b2, hb2⟩ : ∃ b, ((memR l).head? == some 45) = b := ⟨_, rfl⟩
     rw [hb2]
     have HB2 := Lib.hid hb2
     clear hb2
     go_upto_if 38 with (fail)
     go_cut [7] (fun v7 wc => v7 = .int .u8 ((partHi l).toNat : Int) ∧ CS w0 wc B g (partR l) ps (partB l) v ∧ Pb wc H (0, f))
     case first =>
      cases b2 with
      | false =>
       have F : partHi l = memC l ∧ partR l = memR l ∧ partB l = memB l := by
        unfold partHi partR partB
        rw [show partTwo l = false from HB2.out]
        exact ⟨rfl, rfl, rfl⟩
       have HFF := Lib.hid F
       clear F
       go_wp2
       go_meet
       case rel => rw [HFF.out.1, HFF.out.2.1, HFF.out.2.2]; exact ⟨rfl, hS1, hP1⟩
      | true =>
       have hemp : (memR l).isEmpty = false := by
        have h1 := HB2.out
        cases hq : memR l with
        | nil => rw [hq] at h1; exact absurd h1 (by decide)
        | cons a t => rfl
       have F : partHi l = memC (memR l).tail ∧ partR l = memR (memR l).tail ∧ partB l = ((memB l || (memR l).isEmpty) || memB (memR l).tail) := by
        unfold partHi partR partB
        rw [show partTwo l = true from HB2.out, hemp, Bool.or_false]
        exact ⟨rfl, rfl, rfl⟩
       have HFF := Lib.hid F
       clear F hemp
       go_wp2_with fail
       refine (take_any hS1).mono ?_
       rintro e w2 ⟨rfl, hS2, k2⟩
       have hP2 := hP1.kept k2 (hP1.ne hS1)
       clear hS1 hP1 k2 hc1
       go_wp2_with fail
       refine (member_any hS2).mono ?_
       rintro e w3 ⟨rfl, hS3, k3⟩
       have hP3 := hP2.kept k3 (hP2.ne hS2)
       clear hS2 hP2 k3
       go_wp2
       go_meet
       case rel => rw [HFF.out.1, HFF.out.2.1, HFF.out.2.2]; exact ⟨rfl, hS3, hP3⟩
     case rest =>
      clear hS1 hP1 hc1 HB2
      obtain ⟨rfl, hS, hP⟩ := hcut
      have hc2 := hS.blk.c2
      have hf2 := hS.blk.fr 2
      have hbad := hS.set (i := 2) (hS.blk.s2 true)
      have HBAD := Lib.hid hbad
      clear hbad
      cases hb : partB l with
      | true =>
       have hrn : r = none := by
        have h1 := HR1.out
        rw [if_pos (show partBad l = true by unfold partBad; rw [hb]; rfl)] at h1
        exact (Option.some.inj h1).symm
       subst hrn
       rw [hb] at hc2
       have Hb := Lib.hid hb
       clear hb hS hP
       go_wp2
       refine bodyPost_ret (results_none rfl _ _ _) rfl ?_
       exact ⟨rfl, _, _, HBAD.out⟩
      | false =>
       rw [hb] at hc2 hS
       have Hb := Lib.hid hb
       clear hb
       cases hd : decide ((partHi l).toNat < (memC l).toNat) with
       | true =>
        have hrn : r = none := by
         have h1 := HR1.out
         rw [if_pos (show partBad l = true by unfold partBad; rw [Hb.out]; exact decide_eq_true (by have := of_decide_eq_true hd; unfold partLo; omega))] at h1
         exact (Option.some.inj h1).symm
        subst hrn
        clear hS hP
        go_wp2
        refine bodyPost_ret (results_none rfl _ _ _) rfl ?_
        exact ⟨rfl, _, _, HBAD.out⟩
       | false =>
        have hlh : (memC l).toNat ≤ (partHi l).toNat := by have := of_decide_eq_false hd; omega
        have hh256 : (partHi l).toNat < 256 := (partHi l).toNat_lt
        have hR3 : setL k false (partR l) (rngS f (partLo l).toNat ((partHi l).toNat + 1 - (partLo l).toNat)) = some r := by
         have h1 := HR1.out
         rw [if_neg (show ¬ partBad l = true by unfold partBad; rw [Hb.out, Bool.false_or, decide_eq_true_eq]; unfold partLo; omega)] at h1
         exact h1
        have HR3 := Lib.hid hR3
        clear hR3 HBAD
        have hlo : partLo l = memC l := rfl
        rw [hlo] at HR3
        clear hlo
        generalize (memC l).toNat = lo at *
        generalize (partHi l).toNat = hi at *
        go_wp2
        go_loopw [8] (fun i wx => ∃ j : Nat, lo + j ≤ hi + 1 ∧ i = .int .i64 ((lo : Int) + (j : Int)) ∧ CS w0 wx B g (partR l) ps false v ∧ Pb wx H (0, rngS f lo j)) (fun i _ => (hi + 1 - intOf i).toNat)
        case atStart => exact ⟨0, by omega, by go_num, hS, hP⟩
        case round =>
         clear hS hP hc2 hf2
         obtain ⟨j, hj, rfl, hS, hP⟩ := hrel
         by_cases hj2 : lo + j ≤ hi
         ·have hfl : (rngS f lo j).length = 256 := by rw [rngS_len]; exact HF.out
          have hcj := hP.cell hfl (lo + j) (by omega)
          have hfj := hP.fr (1 + (lo + j))
          have hP2 := hP.set (lo + j) true
          rw [← rngS_succ] at hP2
          have hS2 := hS.far hP hHB hv (1 + (lo + j)) (.bool true)
          have HP2 := Lib.hid hP2
          have HS2 := Lib.hid hS2
          have HL := Lib.hid hfl
          clear hP2 hS2 hfl hP hS
          generalize (rngS f lo j).getD (lo + j) false = bb at *
          go_wp2
          go_roundw
          case rel => exact ⟨j + 1, by omega, by go_num, HS2.out, HP2.out⟩
          case measure => simp [intOf]; omega
         ·obtain rfl : j = hi + 1 - lo := by omega
          go_wp2
          go_roundg k
          case measure => omega
          case rel => exact ⟨false, partR l, _, rfl, hS, hP, by rw [rngS_len]; exact HF.out, ⟨HR3.out⟩, by omega⟩
end Go.Proofs.YtejdmofljifkbaaGreatDoor.Gl
namespace Go.Proofs.YtejdmofljifkbaaGreatDoor.Gl
open Go.RowKit Go.Proofs.YtejdmofljifkbaaGreatDoorW.PrintWords Go.Proofs.YtejdmofljifkbaaGreatDoorW.PrintLast Go.Proofs.YtejdmofljifkbaaGreatDoorW.PrintMore
set_option linter.unusedSimpArgs false
set_option linter.unusedVariables false
def qs (j : Nat) : List Bool := (List.range 256).map fun i => decide (i < j) && i != 47
theorem qs_len (j : Nat) : (qs j).length = 256 := by simp [qs]
theorem qs_zero : qs 0 = zs := by decide +kernel
theorem qs_succ (j : Nat) (hj : j < 256) : (qs j).set j (j != 47) = qs (j + 1) := by
 apply List.ext_getElem
 ·simp [qs]
 ·intro i h1 h2
  have hi : i < 256 := by rw [qs_len] at h2; exact h2
  rw [List.getElem_set]
  simp only [qs, List.getElem_map, List.getElem_range]
  split
  ·rename_i e; subst e; rw [decide_eq_true (by omega)]; rfl
  ·rename_i e
   congr 1
   rw [decide_eq_decide]
   omega
def setK (go : List UInt8 → List Pc → Option (Option (List Pc))) (t : List UInt8) (ps : List Pc) : Option (Option (List UInt8 × List Bool)) → Option (Option (List Pc))
 | none => none
 | some none => some none
 | some (some (l2, f)) => go l2.tail (ps ++ [(0, fin47 f (setNot t))])
def escK (go : List UInt8 → List Pc → Option (Option (List Pc))) (ps : List Pc) : List UInt8 → Option (Option (List Pc))
 | [] => some none
 | d :: t' => go t' (ps ++ [(0, zs.set d.toNat true)])
def compL : Nat → List UInt8 → List Pc → Option (Option (List Pc))
 | 0, _, _ => none
 | k + 1, l, ps => match l with
  | [] => some (some ps)
  | c :: t =>
   if c = 42 then (if t.head? = some 42 then compL k t.tail (ps ++ [(2, zs)]) else compL k t (ps ++ [(1, zs)]))
   else if c = 63 then compL k t (ps ++ [(0, qs 256)])
   else if c = 91 then setK (compL k) t ps (setL (t.length + 2) true (setStart t) zs)
   else if c = 92 then escK (compL k) ps t
   else compL k t (ps ++ [(0, zs.set c.toNat true)])
theorem memR_len (l : List UInt8) : (memR l).length ≤ l.length := by unfold memR; split <;> simp <;> omega
theorem partR_len (l : List UInt8) : (partR l).length ≤ l.length := by
 unfold partR
 have h1 := memR_len l
 split
 ·have h2 := memR_len (memR l).tail
  simp at h2
  omega
 ·exact h1
theorem setL_len : ∀ (k : Nat) (first : Bool) (l : List UInt8) (f : List Bool) (l2 : List UInt8) (f2 : List Bool), setL k first l f = some (some (l2, f2)) → l2.length ≤ l.length
 | 0, _, _, _, _, _, h => by simp [setL] at h
 | k + 1, first, l, f, l2, f2, h => by
  simp only [setL] at h
  split at h
  ·simp at h; rw [h.1]; exact Nat.le_refl _
  ·split at h
   ·simp at h
   ·exact Nat.le_trans (setL_len k false _ _ l2 f2 h) (partR_len l)
theorem setStart_len (l : List UInt8) : (setStart l).length ≤ l.length := by unfold setStart; split <;> simp
section
variable {w0 W1 w2 : World} {B g H : Nat} {l : List UInt8} {ps : List Pc} {b : Bool} {v : Value} {x : Pc} {o : Obj}
theorem CS.lt (hS : CS w0 W1 B g l ps b v) : B ≤ W1.heap.size := Nat.le_trans hS.hg (Nat.le_of_lt hS.glt)
theorem rp_o (hS : CS w0 W1 B g l ps b v) : (W1.alloc o).ownsRow B 172 257 v ps.length (rowOf ps) := hS.own.alloc o
theorem rp_n (W1 : World) (x : Pc) : ∀ j u, (pcs x)[j]? = some u → (W1.alloc (.cells (pcs x).toArray 172)).cell? ((⟨W1.heap.size, 0, none⟩ : Addr).add j) = some u :=
 fun j u hu => World.news_of_block (cs := (pcs x).toArray) (t := 172) (fr := (0, 0)) (heap_alloc_new W1 _) j u hu
theorem rp_b (hS : CS w0 W1 B g l ps b v) : B ≤ (W1.alloc o).heap.size := by
 have h1 := hS.lt
 have : (W1.alloc o).heap.size = W1.heap.size + 1 := by simp
 omega
theorem rp_blk (hS : CS w0 W1 B g l ps b v) (hgr : (W1.alloc o).grownBy w2 v.ownBlock) : Cm w2 g l v b := by
 have h1 : w2.heap[g]? = (W1.alloc o).heap[g]? := hgr.block g (by have := hS.glt; simp; omega) (fun e => hS.apart e.symm)
 have h2 : (W1.alloc o).heap[g]? = W1.heap[g]? := Below.heap_alloc W1 o g hS.glt
 exact (h1.trans h2).trans hS.blk
theorem CS.push2 (hS : CS w0 W1 B g l ps b v) (hx : x.2.length = 256) {v2 : Value} (hown : w2.ownsRow B 172 257 v2 (ps.length + 1) (rowOf ps ++ pcs x)) (hgr : (W1.alloc o).grownBy w2 v.ownBlock) :
  CS w0 (w2.setCell ⟨g, 1, none⟩ v2) B g l (ps ++ [x]) b v2 := by
 have hb := rp_blk hS hgr
 have hne : v2.ownBlock ≠ some g := by
  intro e
  obtain ⟨cells, hc⟩ := own_typed hown g e
  unfold Cm at hb
  rw [hb] at hc
  injection hc with hc
  injection hc with _ ht
  exact absurd ht (by decide)
 refine ⟨hb.s1 v2, hS.hg, ?_, ?_, ?_⟩
 ·rw [row_snoc, List.length_append, List.length_singleton]
  exact own_move hown (fun k hk => Below.heap_setCell w2 _ _ k (by rintro rfl; exact hne hk))
 ·exact (((hS.bel.alloc hS.lt o).grown hgr (rp_b hS) (own_base hS.own))).setCell hS.hg _
 ·intro y hy
  rcases List.mem_append.1 hy with hy | hy
  ·exact hS.len y hy
  ·rw [List.mem_singleton.1 hy]; exact hx
end
theorem wpList_build65 {ops : Array Oper} {rest : List Oper} {o : Oper} {a : Act} {w : World} {Q : Exit → Act → World → Prop} (hg : o.guard = none) (y : Operand) (ho : o.op = .buildSlice 142 1 #[(0, y)]) (x : Pc) (hx : x.2.length = 256) (hy : a.eval y = .agg (pcs x).toArray)
  (h : wpList Tryz.prog ops Q rest (a.put o.dst (.slice (some ⟨w.heap.size, 0, none⟩) 1 1)) (w.alloc (.cells (pcs x).toArray 172))) : wpList Tryz.prog ops Q (o :: rest) a w :=
 wpList_plain hg fun _ hK => by
  unfold Oper.wp
  rw [exec_one y ho x hx hy w]
  exact hK _ _ h
theorem set_kind (kd : Int) : Tryz.zeroCells172.setIfInBounds 0 (.int .i64 kd) = (pcs (kd, zs)).toArray := by
 rw [zero65]
 simp [pcs]
theorem qs_succI (j : Nat) (hj : j < 256) : (qs j).set j ((j : Int) != 47) = qs (j + 1) := by
 have e : ((j : Int) != 47) = (j != 47) := by
  rw [Bool.eq_iff_iff, bne_iff_ne, bne_iff_ne]
  omega
 rw [e, qs_succ j hj]
def CompPost (w w' : World) (e : Ending) : Option (List Pc) → Prop
 | none => (∃ v', e = .returned (.tuple #[v', .bool false])) ∧ Below w.heap.size w w'
 | some ps => ∃ v', e = .returned (.tuple #[v', .bool true]) ∧ w'.ownsRow w.heap.size 172 257 v' ps.length (rowOf ps) ∧ Below w.heap.size w w' ∧ ∀ x ∈ ps, x.2.length = 256
set_option maxRecDepth 100000 in
set_option maxHeartbeats 3200000 in
theorem compile_any (s : ByteArray) (K : Nat) (r : Option (List Pc)) (hr : compL K s.data.toList [] = some r) (hs : s.size ≤ 1000) (w : World) :
  Calls Tryz.prog 98 #[.string s] w fun e w' => CompPost w w' e r := by
 have HR := Lib.hid hr
 clear hr
 obtain ⟨l0, hl0⟩ : ∃ l0, s = tx l0 := ⟨s.data.toList, rfl⟩
 subst hl0
 have hS0 : CS w (w.alloc (.cells #[.string (tx l0), .slice none 0 0, .bool false] 168)) w.heap.size w.heap.size l0 [] false (.slice none 0 0) :=
  ⟨heap_alloc_new w _, Nat.le_refl _, own_nil _ _ _ _, (Below.refl _ _).alloc (Nat.le_refl _) _, fun x hx => by cases hx⟩
 have HS0 := Lib.hid hS0
 have hl : l0.length ≤ 1000 := by rw [tx_size] at hs; exact hs
 clear hS0 hs
 have HR' : Hid (compL K l0 [] = some r) := HR
 clear HR
 obtain ⟨i65, hi65, hzz⟩ := Option.map_eq_some_iff.1 info65
 simp only [Prod.mk.injEq] at hzz
 obtain ⟨hz65, hs65, hb65⟩ := hzz
 have INF := Lib.hid (And.intro hi65 (And.intro hz65 (And.intro hs65 hb65)))
 clear hi65 hz65 hs65 hb65
 go_enter Tryz.func98, Tryz.ntmps98
 go_wp2_with fail
 have hS := HS0.out
 clear HS0
 generalize w.alloc (.cells #[.string (tx l0), .slice none 0 0, .bool false] 168) = W0 at *
 obtain ⟨B, hBe⟩ : ∃ B, w.heap.size = B := ⟨_, rfl⟩
 rw [hBe] at hS ⊢
 have HBe := Lib.hid hBe
 clear hBe
 go_loopg [5] K (fun gk v5 w' => ∃ (l : List UInt8) (ps : List Pc) (b : Bool) (v : Value), CS w w' B B l ps b v ∧ Aside0 (if b = true then r = none else compL gk l ps = some r) ∧ (b = false → l.length + ps.length ≤ 1000) ∧ gk ≤ K)
 case atStart => exact ⟨l0, [], false, _, hS, ⟨HR'.out⟩, fun _ => hl, Nat.le_refl _⟩
 case round =>
  clear hS HR' hl
  obtain ⟨l, ps, b, v, hS, hR, hlen, hk⟩ := hrel
  have hc0 := hS.blk.c0
  cases b with
  | true =>
   have hrn : r = none := by have := hR.out; rwa [if_pos rfl] at this
   subst hrn
   clear hR hlen
   cases l with
   | nil =>
    have hn : ((tx []).toList == ([] : List UInt8)) = true := by rw [tx_list]; rfl
    have hc1 := hS.blk.c1
    have hc2 := hS.blk.c2
    go_wp2_with fail
    go_quiet (fail)
    go_wp2
    go_ret2
    exact ⟨⟨_, rfl⟩, by rw [HBe.out]; exact pw_below_drewN hS.bel _⟩
   | cons c t =>
    have hn : ((tx (c :: t)).toList == ([] : List UInt8)) = false := by rw [tx_list]; rfl
    have hc1 := hS.blk.c1
    have hc2 := hS.blk.c2
    go_wp2_with fail
    go_quiet (fail)
    go_wp2
    go_ret2
    exact ⟨⟨_, rfl⟩, by rw [HBe.out]; exact pw_below_drewN hS.bel _⟩
  | false =>
   have hlen := hlen rfl
   have hR1 : compL gk l ps = some r := by have := hR.out; rwa [if_neg (by decide)] at this
   clear hR
   cases gk with
   | zero => exact absurd hR1 (by simp [compL])
   | succ k =>
    cases l with
    | nil =>
     have hrn : r = some ps := by simp [compL] at hR1; exact hR1.symm
     subst hrn
     have hn : ((tx []).toList == ([] : List UInt8)) = true := by rw [tx_list]; rfl
     have hc1 := hS.blk.c1
     have hc2 := hS.blk.c2
     go_wp2_with fail
     go_quiet (fail)
     go_wp2
     go_ret2
     exact ⟨_, rfl, by rw [HBe.out]; exact pw_own_below hS.own (pw_below_drewN (Below.refl _ _) _), by rw [HBe.out]; exact pw_below_drewN hS.bel _, hS.len⟩
    | cons c t =>
     have hn : ((tx (c :: t)).toList == ([] : List UInt8)) = false := by rw [tx_list]; rfl
     have hc2 := hS.blk.c2
     simp only [compL] at hR1
     have HR1 := Lib.hid hR1
     clear hR1
     have hlt : t.length + ps.length + 1 ≤ 1000 := by simp only [List.length_cons] at hlen; omega
     clear hlen
     go_wp2_with fail
     refine (take_any hS).mono ?_
     rintro e w1 ⟨rfl, hS1, k1⟩
     have hS2 : CS w w1 B B t ps false v := hS1
     clear hS hS1 k1 hc0 hc2 hn
     have hh : tkC (c :: t) = c := rfl
     rw [hh]
     clear hh
     by_cases e42 : c = 42
     ·have hR2 : (if t.head? = some 42 then compL k t.tail (ps ++ [(2, zs)]) else compL k t (ps ++ [(1, zs)])) = some r := by
       have := HR1.out
       rwa [if_pos e42] at this
      have HR2 := Lib.hid hR2
      subst e42
      clear hR2 HR1
      have q42 : (((42 : UInt8).toNat : Int) == 42) = true := rfl
      have hc0 := hS2.blk.c0
      go_wp2_with fail
      refine (has1 t 42 _).mono ?_
      rintro e w' ⟨rfl, rfl⟩
      obtain ⟨b2, hb2⟩ : ∃ b, (t.head? == some 42) = b := ⟨_, rfl⟩
      rw [hb2]
      have HB2 := Lib.hid hb2
      clear hb2
      go_upto_if 36 with (fail)
      go_cut [6] (fun v6 wc => ∃ (kd : Int) (tl : List UInt8), v6 = .int .i64 kd ∧ CS w wc B B tl ps false v ∧ (kd = 1 ∨ kd = 2) ∧ Aside0 (compL k tl (ps ++ [(kd, zs)]) = some r) ∧ tl.length ≤ t.length)
      case first =>
       cases b2 with
       | false =>
        go_wp2
        go_meet
        case rel => exact ⟨1, t, rfl, hS2, .inl rfl, ⟨by have := HR2.out; rwa [if_neg (fun h => by have := HB2.out; rw [h] at this; exact absurd this (by decide))] at this⟩, Nat.le_refl _⟩
       | true =>
        have hemp : t.isEmpty = false := by
         have h1 := HB2.out
         cases t with
         | nil => exact absurd h1 (by decide)
         | cons a t => rfl
        have HE := Lib.hid hemp
        clear hemp
        go_wp2_with fail
        refine (take_any hS2).mono ?_
        rintro e w2 ⟨rfl, hS3, k3⟩
        rw [HE.out] at hS3
        clear k3 hS2
        go_wp2
        go_meet
        case rel => exact ⟨2, t.tail, rfl, hS3, .inr rfl, ⟨by have := HR2.out; rwa [if_pos (beq_iff_eq.1 HB2.out)] at this⟩, by simp⟩
      case rest =>
       clear hS2 HR2
       obtain ⟨kd, tl, rfl, hS, hkd, hR2, htl⟩ := hcut
       have hx : ((kd, zs) : Pc).2.length = 256 := zs_len
       have hbk := set_kind kd
       have hc1 := hS.blk.c1
       obtain ⟨x, hxe⟩ : ∃ x : Pc, x = (kd, zs) := ⟨_, rfl⟩
       rw [← hxe] at hbk hR2 hx
       obtain ⟨hi65, hz65, hs65, hb65⟩ := INF.out
       have HX := Lib.hid hx
       have HXE := Lib.hid hxe
       have HI := Lib.hid hi65
       have HZ := Lib.hid hz65
       have HS6 := Lib.hid hs65
       have HB6 := Lib.hid hb65
       clear hx hxe hi65 hz65 hs65 hb65 hkd
       go_wp2_with (first | ((with_reducible refine gate_dst (N := 46) rfl ?_); refine wpList_build65 rfl (.tmp 45) rfl x HX.out rfl ?_) | (at_builtin; refine wpList_append_lies _ rfl (.tmp 43) (.tmp 46) 142 rfl B 172 i65 _ 257 264 Tryz.underlying142 HI.out HZ.out HS6.out HB6.out (zsz65) (by omega) v ps.length (rowOf ps) rfl (rp_o hS) ⟨wc.heap.size, 0, none⟩ 1 1 (pcs x) rfl (by rw [pcs_len x HX.out]) (rp_n wc x) (pcs_one x) (by omega) (by unfold maxLen; omega) (by omega) (rp_b hS) _ rfl ?_; intro g2 cap w2 hown2 hgr2 _ _; have c1 := (rp_blk hS hgr2).c1; have f1 := (rp_blk hS hgr2).fr 1))
       go_roundg k
       case measure => omega
       case rel => exact ⟨tl, _, false, _, hS.push2 HX.out hown2 hgr2, ⟨hR2.out⟩, fun _ => by simp; omega, by omega⟩
     by_cases e63 : c = 63
     ·have hR2 : compL k t (ps ++ [(0, qs 256)]) = some r := by
       have := HR1.out
       rwa [if_neg e42, if_pos e63] at this
      have HR2 := Lib.hid hR2
      subst e63
      clear hR2 HR1 e42
      have q42 : (((63 : UInt8).toNat : Int) == 42) = false := rfl
      have q63 : (((63 : UInt8).toNat : Int) == 63) = true := rfl
      have hS3 : CS w (w1.alloc (.cells Tryz.zeroCells172 172)) B B t ps false v := hS2.alloc _
      have hP3 : Pb (w1.alloc (.cells Tryz.zeroCells172 172)) w1.heap.size (0, qs 0) := by
       rw [qs_zero, zero65]
       exact heap_alloc_new w1 _
      have hv3 : v.ownBlock ≠ some w1.heap.size := fun e => by have := own_lt hS2.own _ e; omega
      have hHB : B ≤ w1.heap.size := hS2.lt
      have HS3 := Lib.hid hS3
      have HP3 := Lib.hid hP3
      have HV3 := Lib.hid hv3
      clear hS3 hP3 hv3 hS2
      go_wp2_with fail
      have hS := HS3.out
      have hP := HP3.out
      have hv := HV3.out
      clear HS3 HP3 HV3
      generalize w1.alloc (.cells Tryz.zeroCells172 172) = W2 at *
      generalize w1.heap.size = H at *
      go_loopw [52, 8] (fun i _ wx => ∃ j : Nat, j ≤ 256 ∧ i = .int .i64 (j : Int) ∧ CS w wx B B t ps false v ∧ Pb wx H (0, qs j)) (fun i _ _ => (256 - intOf i).toNat)
      case atStart => exact ⟨0, by omega, rfl, hS, hP⟩
      case round =>
       clear hS hP
       obtain ⟨j, hj, rfl, hS, hP⟩ := hrel
       by_cases hj2 : j < 256
       ·have hcj := hP.cell (qs_len j) j hj2
        have hfj := hP.fr (1 + j)
        have hP2 := hP.set j ((j : Int) != 47)
        rw [qs_succI j hj2] at hP2
        have hS2 := hS.far hP hHB hv (1 + j) (.bool ((j : Int) != 47))
        have HP2 := Lib.hid hP2
        have HS2 := Lib.hid hS2
        clear hP2 hS2 hP hS
        generalize (qs j).getD j false = bb at *
        go_wp2
        go_roundw
        case rel => exact ⟨j + 1, by omega, by go_num, HS2.out, HP2.out⟩
        case measure => simp [intOf]; omega
       ·obtain rfl : j = 256 := by omega
        obtain ⟨W1, rfl⟩ : ∃ W1 : World, W1 = wr := ⟨_, rfl⟩
        go_wp2_with fail
        have hr := hP.range
        have hx : ((0, qs 256) : Pc).2.length = 256 := qs_len 256
        obtain ⟨x, hxe⟩ : ∃ x : Pc, x = (0, qs 256) := ⟨_, rfl⟩
        rw [← hxe] at hr hx HR2
        clear hxe hP
        obtain ⟨hi65, hz65, hs65, hb65⟩ := INF.out
        have hlenA : (ps.length + 1) * 264 ≤ 140737488355328 := by omega
        refine start_ (n := 11) (S := fun w' => w'.cell? ⟨B, 1, none⟩ = some v ∧ w'.rangeAt H 0 (pcs x)) (ds := [7, 10]) #[false, false, false, false, false, false, false, false, false, false, false] (by kernel_rfl) rfl rfl ⟨(reg_c0 hS), (reg_r0 hr)⟩ (fun hHeld => ?_)
        refine pure_ (i := 0) (N := some 61) (v := ?_) (a' := ?_) #[true, false, false, false, false, false, false, false, false, false, false] rfl rfl (by kernel_rfl) (fun _ _ _ h => h) (Or.inl ⟨by rfl, ?_⟩) ?_ ?_
        rotate_left
        ·intro w'
         go_simp
         with_reducible rfl
        rotate_left
        ·simp only [Act.put, List.setIfInBounds_toArray, List.set_cons_zero, List.set_cons_succ, i64_w, i32_w]
         rfl
        refine pure_ (i := 1) (N := some 62) (v := ?_) (a' := ?_) #[true, true, false, false, false, false, false, false, false, false, false] rfl rfl (by kernel_rfl) (fun _ _ _ h => h) (Or.inl ⟨by rfl, ?_⟩) ?_ ?_
        rotate_left
        ·intro w'
         go_simp
         with_reducible rfl
        rotate_left
        ·simp only [Act.put, List.setIfInBounds_toArray, List.set_cons_zero, List.set_cons_succ, i64_w, i32_w]
         rfl
        refine pure_ (i := 2) (N := some 63) (v := ?_) (a' := ?_) #[true, true, true, false, false, false, false, false, false, false, false] rfl rfl (by kernel_rfl) (fun _ _ _ h => h) (Or.inl ⟨by rfl, ?_⟩) ?_ ?_
        rotate_left
        ·intro w'
         go_simp
         with_reducible rfl
        rotate_left
        ·simp only [Act.put, List.setIfInBounds_toArray, List.set_cons_zero, List.set_cons_succ, i64_w, i32_w]
         rfl
        refine pure_ (i := 3) (N := some 64) (v := ?_) (a' := ?_) #[true, true, true, true, false, false, false, false, false, false, false] rfl rfl (by kernel_rfl) (fun _ _ _ h => h) (Or.inl ⟨by rfl, ?_⟩) ?_ ?_
        rotate_left
        ·intro w'
         go_simp
         with_reducible rfl
        rotate_left
        ·simp only [Act.put, List.setIfInBounds_toArray, List.set_cons_zero, List.set_cons_succ, i64_w, i32_w]
         rfl
        refine take_ (i := 4) (N := some 65) (v := ?_) (a' := ?_) #[true, true, true, true, true, false, false, false, false, false, false] rfl rfl (by kernel_rfl) (fun _ _ _ h => h) (Or.inl ⟨by rfl, ?_⟩) hHeld ?_ ?_
        rotate_left
        ·rintro w' ⟨s0, s1⟩
         go_simp
         with_reducible rfl
        rotate_left
        ·simp only [Act.put, List.setIfInBounds_toArray, List.set_cons_zero, List.set_cons_succ, i64_w, i32_w]
         rfl
        refine take_ (i := 5) (N := some 66) (v := .agg (pcs x).toArray) (a' := ?_) #[true, true, true, true, true, true, false, false, false, false, false] rfl rfl (by kernel_rfl) (fun _ _ _ h => h) (yieldsIf_load_mid (by rfl) 172 (.tmp 7) rfl H 0 rfl (pcs x) _ (fun w' hs => hs.2) Tryz.underlying172 rfl (by rw [pcs_len x hx]; exact size65)) hHeld ?_ ?_
        rotate_left
        ·simp only [Act.put, List.setIfInBounds_toArray, List.set_cons_zero, List.set_cons_succ, i64_w, i32_w]
         rfl
        refine one_ (i := 6) (N := some 67) #[true, true, true, true, true, true, true, false, false, false, false] rfl rfl (by kernel_rfl) (by decide) (fun K hK => ?_)
        refine value_ (w1 := W1.drew.alloc (.cells (pcs x).toArray 172)) (v := .slice (some ⟨W1.heap.size, 0, none⟩) 1 1) (by rfl) rfl ?_ ?_
        ·exact exec_one (.tmp 66) rfl x hx rfl W1.drew
        refine hK.out _ _ ⟨(reg_c hS), (reg_r hr)⟩ (fun hHeld => ?_)
        clear hK K
        refine norm_ (a' := ?_) ?_ ?_
        rotate_left
        ·show Act.put _ (some 67) _ = _
         simp only [Act.put, List.setIfInBounds_toArray, List.set_cons_zero, List.set_cons_succ, i64_w, i32_w]
         rfl
        refine last_ (i := 7) (N := some 68) #[true, true, true, true, true, true, true, true, false, false, false] rfl rfl (by kernel_rfl) (by decide) (fun K hK => ?_)
        refine step_append_lies _ rfl (.tmp 65) (.tmp 67) 142 rfl B 172 i65 _ 257 264 Tryz.underlying142 hi65 hz65 hs65 hb65 (zsz65) (by omega) v ps.length (rowOf ps) rfl (reg_o hS) ⟨W1.heap.size, 0, none⟩ 1 1 (pcs x) rfl (by rw [pcs_len x hx]) (reg_n W1 x) (pcs_one x) (by omega) (by unfold maxLen; omega) hlenA (reg_b hS) _ rfl ?_
        intro g2 cap w2 hown2 hgr2 hat2 hlt2
        have c1 := reg_c2 hS hgr2
        have f1 := reg_f2 hS hgr2
        refine hK.out _ _ ?_
        clear hK K
        refine norm_ (a' := ?_) ?_ ?_
        rotate_left
        ·show Act.put _ (some 68) _ = _
         simp only [Act.put, List.setIfInBounds_toArray, List.set_cons_zero, List.set_cons_succ, i64_w, i32_w]
         rfl
        refine pure_ (i := 8) (N := some 69) (v := ?_) (a' := ?_) #[true, true, true, true, true, true, true, true, true, false, false] rfl rfl (by kernel_rfl) (fun _ _ _ h => h) (Or.inl ⟨by rfl, ?_⟩) ?_ ?_
        rotate_left
        ·intro w'
         go_simp
         with_reducible rfl
        rotate_left
        ·simp only [Act.put, List.setIfInBounds_toArray, List.set_cons_zero, List.set_cons_succ, i64_w, i32_w]
         rfl
        refine pure_ (i := 9) (N := some 70) (v := ?_) (a' := ?_) #[true, true, true, true, true, true, true, true, true, true, false] rfl rfl (by kernel_rfl) (fun _ _ _ h => h) (Or.inl ⟨by rfl, ?_⟩) ?_ ?_
        rotate_left
        ·intro w'
         go_simp
         with_reducible rfl
        rotate_left
        ·simp only [Act.put, List.setIfInBounds_toArray, List.set_cons_zero, List.set_cons_succ, i64_w, i32_w]
         rfl
        refine last_ (i := 10) (N := none) #[true, true, true, true, true, true, true, true, true, true, true] rfl rfl (by kernel_rfl) (by decide) (fun K hK => ?_)
        refine skip_ (w1 := w2.setCell ⟨B, 1, none⟩ (.slice (some ⟨g2, 0, none⟩) (ps.length + 1) cap)) (by rfl) rfl ?_ ?_
        ·go_simp
        refine hK.out _ _ ?_
        clear hK K
        refine done_ (by kernel_rfl) ?_
        go_wp2
        go_roundg k
        case measure => omega
        case rel => exact ⟨t, _, false, _, hS.push hx hown2 hgr2, ⟨HR2.out⟩, fun _ => by simp; omega, by omega⟩
     by_cases e91 : c = 91
     ·have hR2 : setK (compL k) t ps (setL (t.length + 2) true (setStart t) zs) = some r := by
       have := HR1.out
       rwa [if_neg e42, if_neg e63, if_pos e91] at this
      have HR2 := Lib.hid hR2
      subst e91
      clear hR2 HR1 e42 e63
      have q42 : (((91 : UInt8).toNat : Int) == 42) = false := rfl
      have q63 : (((91 : UInt8).toNat : Int) == 63) = false := rfl
      have q91 : (((91 : UInt8).toNat : Int) == 91) = true := rfl
      have hr2 : ∃ r2, setL (t.length + 2) true (setStart t) zs = some r2 := by
       have := HR2.out
       cases hq : setL (t.length + 2) true (setStart t) zs with
       | none => rw [hq] at this; cases this
       | some r2 => exact ⟨r2, rfl⟩
      obtain ⟨r2, hr2⟩ := hr2
      have HQ := Lib.hid hr2
      clear hr2
      go_wp2_with fail
      refine (set_any _ r2 HQ.out hS2 (by omega)).mono ?_
      rintro e w2 ⟨rfl, hpost⟩
      have HP := Lib.hid hpost
      clear hpost hS2
      go_wp2
      go_roundg k
      case measure => omega
      case rel =>
       have h1 := HR2.out
       have h2 := HP.out
       rw [HQ.out] at h1
       cases r2 with
       | none =>
        obtain ⟨l', v', h3⟩ := h2
        exact ⟨l', ps, true, v', h3, ⟨by rw [if_pos rfl]; exact (Option.some.inj h1).symm⟩, (fun h => by cases h), by omega⟩
       | some y =>
        obtain ⟨l2, f⟩ := y
        obtain ⟨v', h3⟩ := h2
        have hl2 := setL_len _ _ _ _ _ _ HQ.out
        have hl3 := setStart_len t
        exact ⟨l2.tail, _, false, v', h3, ⟨by rw [if_neg (by decide)]; exact h1⟩, fun _ => by simp; omega, by omega⟩
     by_cases e92 : c = 92
     ·have hR2 : escK (compL k) ps t = some r := by
       have := HR1.out
       rwa [if_neg e42, if_neg e63, if_neg e91, if_pos e92] at this
      have HR2 := Lib.hid hR2
      subst e92
      clear hR2 HR1 e42 e63 e91
      have q42 : (((92 : UInt8).toNat : Int) == 42) = false := rfl
      have q63 : (((92 : UInt8).toNat : Int) == 63) = false := rfl
      have q91 : (((92 : UInt8).toNat : Int) == 91) = false := rfl
      have q92 : (((92 : UInt8).toNat : Int) == 92) = true := rfl
      go_wp2_with fail
      refine (take_any hS2).mono ?_
      rintro e w2 ⟨rfl, hS3, k3⟩
      rw [Bool.false_or] at hS3
      clear hS2 k3
      go_wp2_with fail
      refine (single_any (tkC t) hS3 (by omega)).mono ?_
      rintro e w3 ⟨rfl, v3, hS4⟩
      clear hS3
      go_wp2
      go_roundg k
      case measure => omega
      case rel =>
       have h1 := HR2.out
       cases t with
       | nil => exact ⟨_, _, true, v3, hS4, ⟨by rw [if_pos rfl]; exact (Option.some.inj h1).symm⟩, (fun h => by cases h), by omega⟩
       | cons d t' => exact ⟨t', _, false, v3, hS4, ⟨by rw [if_neg (by decide)]; exact h1⟩, fun _ => by simp only [List.length_cons, List.length_append, List.length_nil] at hlt ⊢; omega, by omega⟩
     have q42 : ((c.toNat : Int) == 42) = false := (u8_eq c 42 (by omega)).trans (beq_eq_false_iff_ne.2 e42)
     have q63 : ((c.toNat : Int) == 63) = false := (u8_eq c 63 (by omega)).trans (beq_eq_false_iff_ne.2 e63)
     have q91 : ((c.toNat : Int) == 91) = false := (u8_eq c 91 (by omega)).trans (beq_eq_false_iff_ne.2 e91)
     have q92 : ((c.toNat : Int) == 92) = false := (u8_eq c 92 (by omega)).trans (beq_eq_false_iff_ne.2 e92)
     have hR2 : compL k t (ps ++ [(0, zs.set c.toNat true)]) = some r := by
      have := HR1.out
      rwa [if_neg e42, if_neg e63, if_neg e91, if_neg e92] at this
     have HR2 := Lib.hid hR2
     clear hR2 e42 e63 e91 e92
     go_wp2_with fail
     refine (single_any c hS2 (by omega)).mono ?_
     rintro e w2 ⟨rfl, v2, hS3⟩
     go_wp2
     go_roundg k
     case measure => omega
     case rel => exact ⟨t, _, false, v2, hS3, ⟨HR2.out⟩, fun _ => by simp; omega, by omega⟩
end Go.Proofs.YtejdmofljifkbaaGreatDoor.Gl
namespace Go.Proofs.YtejdmofljifkbaaGreatDoor.Gl
open Go.RowKit Go.Proofs.YtejdmofljifkbaaGreatDoorW.PrintWords Go.Proofs.YtejdmofljifkbaaGreatDoorW.PrintLast Go.Proofs.YtejdmofljifkbaaGreatDoorW.PrintMore
set_option linter.unusedSimpArgs false
set_option linter.unusedVariables false
theorem info4 : (Tryz.prog.info? 4).map (fun i => (i.zero, i.size, i.bytes)) = some (some (.bool false), 1, 1) := by kernel_rfl
def Bb (w : World) (m : Nat) (M : List Bool) : Prop := w.heap[m]? = some (.cells (M.map Value.bool).toArray 4 (0, 0))
theorem Bb.cell {w : World} {m : Nat} {M : List Bool} (h : Bb w m M) (i : Nat) (hi : i < M.length) : w.cell? ⟨m, i, none⟩ = some (.bool (M.getD i false)) := by
 rw [cell_of_row w m i _ 4 (0, 0) h]
 simp only [List.getElem?_toArray, List.getElem?_map]
 rw [List.getD_eq_getElem?_getD, List.getElem?_eq_getElem hi]
 rfl
theorem Bb.fr {w : World} {m : Nat} {M : List Bool} (h : Bb w m M) (i : Nat) : w.frozen? ⟨m, i, none⟩ = false := frozen_of_row w m i _ 4 h
theorem Bb.lt {w : World} {m : Nat} {M : List Bool} (h : Bb w m M) : m < w.heap.size := (Array.getElem?_eq_some_iff.1 h).1
theorem Bb.set {w : World} {m : Nat} {M : List Bool} (h : Bb w m M) (i : Nat) (c : Bool) : Bb (w.setCell ⟨m, i, none⟩ (.bool c)) m (M.set i c) := by
 have := heap_setCell_same w m i _ 4 (.bool c) h
 unfold Bb
 rw [this]
 simp [List.map_set]
def skipTo (ps : List Pc) (M : List Bool) : Nat → List Bool
 | 0 => M
 | k + 1 => if (skipTo ps M k).getD k false && (ps.getD k (0, [])).1 != 0 then (skipTo ps M k).set (k + 1) true else skipTo ps M k
theorem skipTo_len (ps : List Pc) (M : List Bool) (k : Nat) : (skipTo ps M k).length = M.length := by
 induction k with
 | zero => rfl
 | succ k ih => simp only [skipTo]; split <;> simp [ih]
structure Lp (w : World) (bl : Nat) (ps : List Pc) : Prop where
 at_ : ∀ k x, ps[k]? = some x → w.rangeAt bl (k * 257) (pcs x)
 len : ∀ x ∈ ps, x.2.length = 256
theorem setCells_block (H : Nat) (t : TypeId) : ∀ (vs : List Value) (o : Nat) (c : Array Value) (w : World), w.heap[H]? = some (.cells c t (0, 0)) → o + vs.length = c.size →
  (w.setCells H o vs).heap[H]? = some (.cells (c.toList.take o ++ vs).toArray t (0, 0)) ∧ w.grownBy (w.setCells H o vs) (some H)
 | [], o, c, w, h, hs => by
  refine ⟨?_, World.grownBy.refl w _⟩
  have e : (c.toList.take o ++ []).toArray = c := by
   rw [List.append_nil, List.take_of_length_le (by simp at hs ⊢; omega)]
  rw [e]
  exact h
 | v :: vs, o, c, w, h, hs => by
  have h1 := heap_setCell_same w H o c t v h
  have h2 := setCells_block H t vs (o + 1) (c.setIfInBounds o v) (w.setCell ⟨H, o, none⟩ v) h1 (by simp at hs ⊢; omega)
  have e : ((c.setIfInBounds o v).toList.take (o + 1) ++ vs).toArray = (c.toList.take o ++ v :: vs).toArray := by
   congr 1
   have ho : o < c.toList.length := by simp at hs ⊢; omega
   rw [Array.toList_setIfInBounds, List.take_succ_eq_append_getElem (by simpa using ho), List.getElem_set_self, List.take_set_of_le (Nat.le_refl _)]
   simp
  rw [e] at h2
  exact ⟨h2.1, (only_set w H o v).trans h2.2⟩
theorem boxed (wr : World) (x : Pc) (hx : x.2.length = 256) :
  Pb ((wr.alloc (.cells Tryz.zeroCells172 172)).setCells wr.heap.size 0 (pcs x)) wr.heap.size x ∧ wr.grownBy ((wr.alloc (.cells Tryz.zeroCells172 172)).setCells wr.heap.size 0 (pcs x)) none := by
 have h := setCells_block wr.heap.size 172 (pcs x) 0 Tryz.zeroCells172 (wr.alloc (.cells Tryz.zeroCells172 172)) (heap_alloc_new wr _) (by
  rw [Nat.zero_add, pcs_len x hx, zero65, List.size_toArray]; exact (pcs_len _ zs_len).symm)
 refine ⟨by unfold Pb; simpa using h.1, ?_⟩
 have h2 := World.grownBy.trans (World.grownBy_alloc wr (.cells Tryz.zeroCells172 172) (some wr.heap.size)) h.2
 exact ⟨h2.os, h2.tape, h2.output, h2.size, fun k hk _ => h2.block k hk (fun e => by injection e with e; omega)⟩
theorem pcs_size (x : Pc) (h : x.2.length = 256) : (pcs x).toArray.size = 257 := by rw [List.size_toArray]; exact pcs_len x h
theorem there_new (wr : World) : (wr.alloc (.cells Tryz.zeroCells172 172)).there wr.heap.size 0 257 := by
 have hP : Pb (wr.alloc (.cells Tryz.zeroCells172 172)) wr.heap.size (0, zs) := by rw [zero65]; exact heap_alloc_new wr _
 intro j hj
 refine ⟨?_, hP.fr _⟩
 rw [cell_of_row _ _ _ _ 172 (0, 0) hP, Nat.zero_add]
 rw [Array.getElem?_eq_getElem (by rw [List.size_toArray, pcs_len _ zs_len]; exact hj)]
 rfl
set_option maxRecDepth 100000 in
set_option maxHeartbeats 1600000 in
theorem skip_any (w : World) (bl cap m : Nat) (ps : List Pc) (M : List Bool) (hp : 0 < ps.length) (hps : ps.length ≤ 1000) (hM : M.length = ps.length + 1) (hl : Lp w bl ps) (hb : Bb w m M) (hne : bl ≠ m) (hbl : bl < w.heap.size) :
  Calls Tryz.prog 150 #[.slice (some ⟨bl, 0, none⟩) ps.length cap, .slice (some ⟨m, 0, none⟩) (ps.length + 1) (ps.length + 1)] w fun e w' => e = .returned (.tuple #[]) ∧ Bb w' m (skipTo ps M ps.length) ∧ w.grownBy w' (some m) := by
 go_enter Tryz.func150, Tryz.ntmps150
 go_wp2_with fail
 go_loopg [5, 8] ps.length (fun gk v5 v8 wr => ∃ k : Nat, k + gk = ps.length ∧ v8 = .int .i64 (k : Int) ∧ Bb wr m (skipTo ps M k) ∧ w.grownBy wr (some m))
 case atStart => exact ⟨0, by omega, rfl, hb, World.grownBy.refl w _⟩
 case round =>
  clear hb
  obtain ⟨k, hk, rfl, hb, hg⟩ := hrel
  cases gk with
  | zero =>
   obtain rfl : k = ps.length := by omega
   go_wp2
   go_end0
   exact ⟨rfl, hb, hg⟩
  | succ gk =>
   have hk2 : k < ps.length := by omega
   obtain ⟨x, hx⟩ : ∃ x, ps[k]? = some x := ⟨ps[k], List.getElem?_eq_getElem hk2⟩
   have hmem : x ∈ ps := List.mem_of_getElem? hx
   have hxl := hl.len x hmem
   have hr : wr.rangeAt bl (k * 257) (pcs x) := fun j u hu => (World.cell?_of_block (hg.block bl hbl (fun e => hne (by injection e)))).trans (hl.at_ k x hx j u hu)
   have HX := Lib.hid hx
   have HXL := Lib.hid hxl
   clear hx hxl
   go_upto_region 2 with (fail)
   go_cut [4, 5] (fun v4 v5 wc => v4 = .int .i64 (k : Int) ∧ ∃ H, v5 = .pointer (some ⟨H, 0, none⟩) ∧ Pb wc H x ∧ Bb wc m (skipTo ps M k) ∧ w.grownBy wc (some m))
   case first =>
    have HTH := Lib.hid (show (wr.alloc (.cells Tryz.zeroCells172 172)).there wr.heap.size 0 (pcs x).toArray.size from by rw [pcs_size x HXL.out]; exact there_new wr)
    have HSZ := Lib.hid (show (Tryz.prog.info? 172).map (·.size) = some (pcs x).toArray.size from by rw [pcs_size x HXL.out]; exact size65)
    have HON := Lib.hid (all_oneCell_toArray (pcs_one x))
    go_wp2_with (first | ((with_reducible refine gate_dst (N := 12) rfl ?_); refine wpList_load_mid rfl 172 (.tmp 11) rfl bl (k * 257) rfl (pcs x) _ hr Tryz.underlying172 rfl (by rw [pcs_len x HXL.out]; exact size65) ?_) | ((with_reducible refine gate_store (t := 172) (p := 5) (v := .tmp 12) rfl ?_); refine wpList_store_mid rfl 172 (.tmp 5) (.tmp 12) rfl wr.heap.size 0 (pcs x).toArray rfl rfl HTH.out HSZ.out HON.out ?_))
    go_meet
    case rel =>
     obtain ⟨b1, b2⟩ := boxed wr x HXL.out
     exact ⟨rfl, _, rfl, b1, (b2.block m hb.lt (by simp)).trans hb, hg.trans ⟨b2.os, b2.tape, b2.output, b2.size, fun k hk _ => b2.block k hk (by simp)⟩⟩
   case rest =>
    clear hb hg hr
    obtain ⟨rfl, H, rfl, hP, hb, hg⟩ := hcut
    have hMl : (skipTo ps M k).length = ps.length + 1 := by rw [skipTo_len]; exact hM
    have hc := hb.cell k (by omega)
    have hc1 := hb.cell (k + 1) (by omega)
    have hf1 := hb.fr (k + 1)
    have hck : wc.cell? ⟨H, 0, none⟩ = some (.int .i64 x.1) := hP.kind
    have hb2 := hb.set (k + 1) true
    have hg2 := hg.trans (only_set wc m (k + 1) (.bool true))
    have hget : (ps.getD k (0, [])).1 = x.1 := by rw [List.getD_eq_getElem?_getD, HX.out]; rfl
    have HB2 := Lib.hid hb2
    have HG2 := Lib.hid hg2
    have HGET := Lib.hid hget
    have HML := Lib.hid hMl
    clear hb2 hg2 hget hMl
    cases hq : (skipTo ps M k).getD k false with
    | false =>
     rw [hq] at hc
     have es : skipTo ps M (k + 1) = skipTo ps M k := by simp only [skipTo]; rw [hq]; rfl
     have ES := Lib.hid es
     clear es hq
     go_wp2
     go_roundg gk
     case measure => omega
     case rel => exact ⟨k + 1, by omega, by go_num, by rw [ES.out]; exact hb, hg⟩
    | true =>
     rw [hq] at hc
     cases hz : (x.1 != 0) with
     | false =>
      have es : skipTo ps M (k + 1) = skipTo ps M k := by simp only [skipTo]; rw [hq, HGET.out, hz]; rfl
      have ES := Lib.hid es
      clear es hq
      go_wp2
      go_roundg gk
      case measure => omega
      case rel => exact ⟨k + 1, by omega, by go_num, by rw [ES.out]; exact hb, hg⟩
     | true =>
      have es : skipTo ps M (k + 1) = (skipTo ps M k).set (k + 1) true := by simp only [skipTo]; rw [hq, HGET.out, hz]; rfl
      have ES := Lib.hid es
      clear es hq
      go_wp2
      go_roundg gk
      case measure => omega
      case rel => exact ⟨k + 1, by omega, by go_num, by rw [ES.out]; exact HB2.out, HG2.out⟩
end Go.Proofs.YtejdmofljifkbaaGreatDoor.Gl
namespace Go.Proofs.YtejdmofljifkbaaGreatDoor.Gl
open Go.RowKit Go.Proofs.YtejdmofljifkbaaGreatDoorW.PrintWords Go.Proofs.YtejdmofljifkbaaGreatDoorW.PrintLast Go.Proofs.YtejdmofljifkbaaGreatDoorW.PrintMore
set_option linter.unusedSimpArgs false
set_option linter.unusedVariables false
def Lv (w : World) (A : Option Addr) (ps : List Pc) : Prop :=
 (∀ x ∈ ps, x.2.length = 256) ∧ (0 < ps.length → ∃ bl, A = some ⟨bl, 0, none⟩ ∧ Lp w bl ps ∧ ∃ cells, w.heap[bl]? = some (.cells cells 172 (0, 0)))
theorem Lv.keep {w w1 : World} {A : Option Addr} {ps : List Pc} (h : Lv w A ps) (hk : ∀ k, k < w.heap.size → (∀ M, ¬ Bb w k M) → w1.heap[k]? = w.heap[k]?) : Lv w1 A ps := by
 refine ⟨h.1, fun hp => ?_⟩
 obtain ⟨bl, e, hl, cells, hc⟩ := h.2 hp
 have hlt : bl < w.heap.size := (Array.getElem?_eq_some_iff.1 hc).1
 have hb := hk bl hlt (fun M hM => by
  unfold Bb at hM
  rw [hc] at hM
  injection hM with hM
  injection hM with _ ht
  exact absurd ht (by decide))
 exact ⟨bl, e, ⟨fun k x hx j u hu => (World.cell?_of_block hb).trans (hl.at_ k x hx j u hu), hl.len⟩, cells, hb.trans hc⟩
theorem Lv.below {w w1 : World} {A : Option Addr} {ps : List Pc} (h : Lv w A ps) (hb : Below w.heap.size w w1) : Lv w1 A ps := h.keep fun k hk _ => hb.block k hk
theorem Lv.of_own {w : World} {B : Nat} {v : Value} {ps : List Pc} (h : w.ownsRow B 172 257 v ps.length (rowOf ps)) (hl : ∀ x ∈ ps, x.2.length = 256) : ∃ A cap, v = .slice A ps.length cap ∧ Lv w A ps := by
 obtain ⟨A, cap, rfl⟩ := own_slice h
 refine ⟨A, cap, rfl, hl, fun hp => ?_⟩
 obtain ⟨g, cap2, e, _, _⟩ := h.form hp
 injection e with e1 e2 e3
 subst e1
 obtain ⟨cells, hc⟩ := own_typed h g rfl
 refine ⟨g, rfl, ⟨fun k x hx j u hu => ?_, hl⟩, cells, hc⟩
 have hcell := h.cells (g := g) rfl (k * 257 + j) u ?_
 ·rw [add_plain] at hcell
  exact hcell
 ·have key : ∀ (ps : List Pc), (∀ x ∈ ps, x.2.length = 256) → ∀ k x, ps[k]? = some x → ∀ j u, (pcs x)[j]? = some u → (rowOf ps)[k * 257 + j]? = some u := by
   intro ps
   induction ps with
   | nil => intro _ k x hx; simp at hx
   | cons y ys ih =>
    intro hl k x hx j u hu
    have hy : (pcs y).length = 257 := pcs_len y (hl y List.mem_cons_self)
    have hj : j < 257 := by
     have hxm : x ∈ y :: ys := List.mem_of_getElem? hx
     have h1 := (List.getElem?_eq_some_iff.1 hu).1
     rw [pcs_len x (hl x hxm)] at h1
     exact h1
    show (pcs y ++ rowOf ys)[k * 257 + j]? = some u
    cases k with
    | zero =>
     simp at hx
     subst hx
     rw [Nat.zero_mul, Nat.zero_add, List.getElem?_append_left (by omega)]
     exact hu
    | succ k =>
     rw [List.getElem?_append_right (by omega), hy, show (k + 1) * 257 + j - 257 = k * 257 + j from by omega]
     exact ih (fun x hx => hl x (List.mem_cons_of_mem _ hx)) k x (by simpa using hx) j u hu
  exact key ps hl k x hx j u hu
theorem skip_own (w : World) (A : Option Addr) (cap m : Nat) (ps : List Pc) (M : List Bool) (hps : ps.length ≤ 1000) (hM : M.length = ps.length + 1) (hl : Lv w A ps) (hb : Bb w m M) :
  Calls Tryz.prog 150 #[.slice A ps.length cap, .slice (some ⟨m, 0, none⟩) (ps.length + 1) (ps.length + 1)] w fun e w' => e = .returned (.tuple #[]) ∧ Bb w' m (skipTo ps M ps.length) ∧ w.grownBy w' (some m) := by
 rcases Nat.eq_zero_or_pos ps.length with h0 | h0
 ·rw [h0]
  have hb2 : Bb w m (skipTo ps M 0) := hb
  have HB := Lib.hid hb2
  clear hb2 hb hM hps hl h0
  go_enter Tryz.func150, Tryz.ntmps150
  go_wp2
  go_loopg [5, 8] 0 (fun gk v5 v8 wr => v8 = .int .i64 0 ∧ gk = 0 ∧ w = wr)
  case atStart => exact ⟨rfl, rfl, rfl⟩
  case round =>
   obtain ⟨rfl, rfl, rfl⟩ := hrel
   go_wp2
   go_end0
   exact ⟨rfl, HB.out, World.grownBy.refl w _⟩
 ·obtain ⟨bl, rfl, hlp, cells, hc⟩ := hl.2 h0
  refine skip_any w bl cap m ps M h0 hps hM hlp hb ?_ (Array.getElem?_eq_some_iff.1 hc).1
  rintro rfl
  unfold Bb at hb
  rw [hc] at hb
  injection hb with hb
  injection hb with _ ht
  exact absurd ht (by decide)
def nextTo (ps : List Pc) (M : List Bool) (c : UInt8) : Nat → List Bool
 | 0 => List.replicate (ps.length + 1) false
 | k + 1 =>
  let N := nextTo ps M c k
  let x := ps.getD k (0, [])
  if M.getD k false = false then N
  else if x.1 = 0 then N.set (k + 1) (N.getD (k + 1) false || x.2.getD c.toNat false)
  else if x.1 = 2 ∨ c ≠ 47 then N.set k true else N
theorem nextTo_len (ps : List Pc) (M : List Bool) (c : UInt8) (k : Nat) : (nextTo ps M c k).length = ps.length + 1 := by
 induction k with
 | zero => simp [nextTo]
 | succ k ih =>
  simp only [nextTo]
  repeat' split
  all_goals simp [ih]
def mt (ps : List Pc) (s : List UInt8) : Nat → List Bool
 | 0 => skipTo ps (true :: List.replicate ps.length false) ps.length
 | i + 1 => skipTo ps (nextTo ps (mt ps s i) (s.getD i 0) ps.length) ps.length
theorem mt_len (ps : List Pc) (s : List UInt8) (i : Nat) : (mt ps s i).length = ps.length + 1 := by
 cases i with
 | zero => simp only [mt]; rw [skipTo_len]; simp
 | succ i => simp only [mt]; rw [skipTo_len, nextTo_len]
def matchB (ps : List Pc) (s : List UInt8) : Bool := (mt ps s s.length).getD ps.length false
def bc (M : List Bool) : Array Value := (M.map Value.bool).toArray
def bz (n : Nat) : Array Value := bc (List.replicate n false)
def bo (n : Nat) : Array Value := bc (true :: List.replicate n false)
theorem made_bz (n : Nat) : madeCells #[.bool false] n = bz n := by
 apply Array.ext
 ·simp [madeCells, bz, bc]
 ·intro i h1 h2
  simp [madeCells, bz, bc, Nat.mod_one]
theorem bz_zero (n : Nat) : (bz (n + 1))[0]? = some (.bool false) := by simp [bz, bc, List.replicate_succ]
theorem bz_set (n : Nat) : (bz (n + 1)).setIfInBounds 0 (.bool true) = bo n := by simp [bz, bo, bc, List.replicate_succ]
theorem Bb.kept {w w1 : World} {m m2 : Nat} {M : List Bool} (h : Bb w m M) (hg : w.grownBy w1 (some m2)) (hne : m ≠ m2) : Bb w1 m M := (hg.block m h.lt (fun e => hne (by injection e))).trans h
theorem Bb.ne {w : World} {m H : Nat} {M : List Bool} {x : Pc} (h : Bb w m M) (hP : Pb w H x) : m ≠ H := by
 rintro rfl
 unfold Bb at h
 unfold Pb at hP
 rw [h] at hP
 injection hP with hP
 injection hP with _ ht
 exact absurd ht (by decide)
set_option maxRecDepth 100000 in
set_option maxHeartbeats 3200000 in
theorem matches_any (w : World) (A : Option Addr) (cap : Nat) (ps : List Pc) (s : ByteArray) (hps : ps.length ≤ 1000) (hs : s.size ≤ 1000000) (hl : Lv w A ps) :
  Calls Tryz.prog 125 #[.slice A ps.length cap, .string s] w fun e w' => e = .returned (.bool (matchB ps s.data.toList)) ∧ Below w.heap.size w w' := by
 have hmk := fun W => run_make_row' (P := Tryz.prog) 196 4 (.bool false) 1 Tryz.underlying196 info4 rfl .i64 .i64 (ps.length + 1) (by omega) (by omega) W
 have ec : ((ps.length + 1 : Nat) : Int) = (ps.length : Int) + 1 := by omega
 rw [ec, made_bz] at hmk
 have HMK := Lib.hid hmk
 clear ec
 have b0 := bz_zero ps.length
 have b1 := bz_set ps.length
 go_enter Tryz.func125, Tryz.ntmps125
 go_wp2_with fail
 clear hmk b0 b1
 have hb0 : Bb (w.alloc (.cells (bo ps.length) 4)) w.heap.size (true :: List.replicate ps.length false) := heap_alloc_new w _
 have hB0 : Below w.heap.size w (w.alloc (.cells (bo ps.length) 4)) := (Below.refl _ _).alloc (Nat.le_refl _) _
 refine (skip_own _ A cap _ ps _ hps (by simp) (hl.below hB0) hb0).mono ?_
 rintro e w1 ⟨rfl, hb1, hg1⟩
 have hB1 : Below w.heap.size w w1 := hB0.grown hg1 hB0.size (fun k hk => by injection hk with hk; omega)
 have hb2 : Bb w1 w.heap.size (mt ps s.data.toList 0) := hb1
 clear hb0 hB0 hb1 hg1
 go_wp2_with fail
 go_loopg [5, 21] s.size (fun gk v5 v21 wr => ∃ (i m : Nat), i + gk = s.size ∧ v21 = .int .i64 (i : Int) ∧ v5 = .slice (some ⟨m, 0, none⟩) (ps.length + 1) (ps.length + 1) ∧ Bb wr m (mt ps s.data.toList i) ∧ w.heap.size ≤ m ∧ Below w.heap.size w wr)
 case atStart => exact ⟨0, _, by omega, rfl, rfl, hb2, Nat.le_refl _, hB1⟩
 case round =>
  clear hb2 hB1
  obtain ⟨i, m, hi, rfl, rfl, hb, hm, hB⟩ := hrel
  have hml := mt_len ps s.data.toList i
  cases gk with
  | zero =>
   obtain rfl : i = s.size := by omega
   have hc := hb.cell ps.length (by omega)
   have e : (mt ps s.data.toList s.size).getD ps.length false = matchB ps s.data.toList := by unfold matchB; rw [data_length]
   rw [e] at hc
   clear e hml
   go_wp2
   go_ret
   exact ⟨rfl, hB⟩
  | succ og =>
   have hi2 : i < s.size := by omega
   obtain ⟨c, hce⟩ : ∃ c, (s[i]'hi2) = c := ⟨_, rfl⟩
   have hgd : s.data.toList.getD i 0 = c := by
    have h' : i < s.data.toList.length := by rw [data_length]; exact hi2
    rw [List.getD_eq_getElem?_getD, List.getElem?_eq_getElem h', ← hce]
    rfl
   have emt : mt ps s.data.toList (i + 1) = skipTo ps (nextTo ps (mt ps s.data.toList i) c ps.length) ps.length := by simp only [mt]; rw [hgd]
   have EMT := Lib.hid emt
   have HML := Lib.hid hml
   clear emt hgd hml
   have hmk := HMK.out
   go_wp2_with fail
   clear hmk
   have hbn : Bb (wr.alloc (.cells (bz (ps.length + 1)) 4)) wr.heap.size (nextTo ps (mt ps s.data.toList i) c 0) := heap_alloc_new wr _
   have hbm : Bb (wr.alloc (.cells (bz (ps.length + 1)) 4)) m (mt ps s.data.toList i) := (Below.heap_alloc wr _ m hb.lt).trans hb
   have hmn : m ≠ wr.heap.size := Nat.ne_of_lt hb.lt
   have hwm : w.heap.size ≤ wr.heap.size := hB.size
   have hB2 : Below w.heap.size w (wr.alloc (.cells (bz (ps.length + 1)) 4)) := hB.alloc hwm _
   clear hb hB
   generalize wr.alloc (.cells (bz (ps.length + 1)) 4) = W2 at *
   generalize wr.heap.size = m2 at *
   go_loopg [30] ps.length (fun gj v30 wx => ∃ k : Nat, k + gj = ps.length ∧ v30 = .int .i64 (k : Int) ∧ Bb wx m (mt ps s.data.toList i) ∧ Bb wx m2 (nextTo ps (mt ps s.data.toList i) c k) ∧ Below w.heap.size w wx)
   case atStart => exact ⟨0, by omega, rfl, hbm, hbn, hB2⟩
   case round =>
    clear hbm hbn hB2
    obtain ⟨k, hk, rfl, hbm, hbn, hB⟩ := hrel
    cases gk with
    | zero =>
     obtain rfl : k = ps.length := by omega
     have hskip := skip_own wr A cap m2 ps _ hps (nextTo_len ps (mt ps s.data.toList i) c ps.length) (hl.below hB) hbn
     have HSK := Lib.hid hskip
     clear hskip
     go_wp2_with fail
     refine HSK.out.mono ?_
     rintro e w3 ⟨rfl, hb3, hg3⟩
     have hB3 : Below w.heap.size w w3 := hB.grown hg3 hB.size (fun q hq => by injection hq with hq; omega)
     rw [← EMT.out] at hb3
     clear hbm hbn hB hg3 HSK
     go_wp2
     go_roundg og
     case measure => omega
     case rel => exact ⟨i + 1, m2, by omega, by go_num, rfl, hb3, by omega, hB3⟩
    | succ gj =>
     have hk2 : k < ps.length := by omega
     obtain ⟨x, hx⟩ : ∃ x, ps[k]? = some x := ⟨ps[k], List.getElem?_eq_getElem hk2⟩
     have hxl := hl.1 x (List.mem_of_getElem? hx)
     obtain ⟨bl, rfl, hlp, cells, hcc⟩ := (hl.below hB).2 (by omega)
     have hr : wr.rangeAt bl (k * 257) (pcs x) := hlp.at_ k x hx
     have HX := Lib.hid hx
     have HXL := Lib.hid hxl
     clear hx hxl hlp hcc
     go_upto_region 10 with (fail)
     go_cut [8, 9] (fun v8 v9 wc => v8 = .int .i64 (k : Int) ∧ ∃ H, v9 = .pointer (some ⟨H, 0, none⟩) ∧ Pb wc H x ∧ Bb wc m (mt ps s.data.toList i) ∧ Bb wc m2 (nextTo ps (mt ps s.data.toList i) c k) ∧ Below w.heap.size w wc)
     case first =>
      have HTH := Lib.hid (show (wr.alloc (.cells Tryz.zeroCells172 172)).there wr.heap.size 0 (pcs x).toArray.size from by rw [pcs_size x HXL.out]; exact there_new wr)
      have HSZ := Lib.hid (show (Tryz.prog.info? 172).map (·.size) = some (pcs x).toArray.size from by rw [pcs_size x HXL.out]; exact size65)
      have HON := Lib.hid (all_oneCell_toArray (pcs_one x))
      go_wp2_with (first | ((with_reducible refine gate_dst (N := 34) rfl ?_); refine wpList_load_mid rfl 172 (.tmp 33) rfl bl (k * 257) rfl (pcs x) _ hr Tryz.underlying172 rfl (by rw [pcs_len x HXL.out]; exact size65) ?_) | ((with_reducible refine gate_store (t := 172) (p := 9) (v := .tmp 34) rfl ?_); refine wpList_store_mid rfl 172 (.tmp 9) (.tmp 34) rfl wr.heap.size 0 (pcs x).toArray rfl rfl HTH.out HSZ.out HON.out ?_))
      go_meet
      case rel =>
       obtain ⟨b1, b2⟩ := boxed wr x HXL.out
       exact ⟨rfl, _, rfl, b1, (b2.block m hbm.lt (by simp)).trans hbm, (b2.block m2 hbn.lt (by simp)).trans hbn, hB.grown b2 hB.size (fun q hq => by cases hq)⟩
     case rest =>
      clear hbm hbn hB hr
      obtain ⟨rfl, H, rfl, hP, hbm, hbn, hB⟩ := hcut
      have hnl := nextTo_len ps (mt ps s.data.toList i) c k
      have hcm := hbm.cell k (by rw [HML.out]; omega)
      have hcn := hbn.cell k (by omega)
      have hcn1 := hbn.cell (k + 1) (by omega)
      have hfn := hbn.fr k
      have hfn1 := hbn.fr (k + 1)
      have hck : wc.cell? ⟨H, 0, none⟩ = some (.int .i64 x.1) := hP.kind
      have hcs : wc.cell? ⟨H, 1 + c.toNat, none⟩ = some (.bool (x.2.getD c.toNat false)) := hP.cell HXL.out c.toNat c.toNat_lt
      have hc256 : (c.toNat : Int) < 256 := by have := c.toNat_lt; omega
      have hgx : ps.getD k (0, []) = x := by rw [List.getD_eq_getElem?_getD, HX.out]; rfl
      have HGX := Lib.hid hgx
      have HNL := Lib.hid hnl
      clear hgx hnl
      cases hq : (mt ps s.data.toList i).getD k false with
      | false =>
       rw [hq] at hcm
       have es : nextTo ps (mt ps s.data.toList i) c (k + 1) = nextTo ps (mt ps s.data.toList i) c k := by simp only [nextTo]; rw [hq, if_pos rfl]
       have ES := Lib.hid es
       clear es hq
       go_wp2
       go_roundg gj
       case measure => omega
       case rel => exact ⟨k + 1, by omega, by go_num, hbm, by rw [ES.out]; exact hbn, hB⟩
      | true =>
       rw [hq] at hcm
       by_cases hz : x.1 = 0
       ·have es : nextTo ps (mt ps s.data.toList i) c (k + 1) = (nextTo ps (mt ps s.data.toList i) c k).set (k + 1) ((nextTo ps (mt ps s.data.toList i) c k).getD (k + 1) false || x.2.getD c.toNat false) := by
         simp only [nextTo]; rw [hq, if_neg (by decide), HGX.out, if_pos hz]
        have ES := Lib.hid es
        rw [hz] at hck
        clear es hq hz
        have hb2 := hbn.set (k + 1) ((nextTo ps (mt ps s.data.toList i) c k).getD (k + 1) false || x.2.getD c.toNat false)
        rw [← ES.out] at hb2
        have hbm2 := hbm.kept (only_set wc m2 (k + 1) (.bool ((nextTo ps (mt ps s.data.toList i) c k).getD (k + 1) false || x.2.getD c.toNat false))) hmn
        have hB2 : Below w.heap.size w (wc.setCell ⟨m2, k + 1, none⟩ (.bool ((nextTo ps (mt ps s.data.toList i) c k).getD (k + 1) false || x.2.getD c.toNat false))) := hB.setCell hwm _
        have R := Lib.hid (And.intro hbm2 (And.intro hb2 hB2))
        clear hbm2 hb2 hB2 hbm hbn hB
        generalize (nextTo ps (mt ps s.data.toList i) c k).getD (k + 1) false = o1 at *
        generalize x.2.getD c.toNat false = o2 at *
        cases o1 with
        | true =>
         go_wp2
         go_roundg gj
         case measure => omega
         case rel => exact ⟨k + 1, by omega, by go_num, R.out.1, R.out.2.1, R.out.2.2⟩
        | false =>
         go_wp2
         go_roundg gj
         case measure => omega
         case rel => exact ⟨k + 1, by omega, by go_num, R.out.1, R.out.2.1, R.out.2.2⟩
       ·have hz0 : (x.1 == 0) = false := beq_eq_false_iff_ne.2 hz
        have hb2 := hbn.set k true
        have hbm2 := hbm.kept (only_set wc m2 k (.bool true)) hmn
        have hB2 : Below w.heap.size w (wc.setCell ⟨m2, k, none⟩ (.bool true)) := hB.setCell hwm _
        have R := Lib.hid (And.intro hbm2 (And.intro hb2 hB2))
        clear hbm2 hb2 hB2
        by_cases hor : x.1 = 2 ∨ c ≠ 47
        ·have es : nextTo ps (mt ps s.data.toList i) c (k + 1) = (nextTo ps (mt ps s.data.toList i) c k).set k true := by
          simp only [nextTo]; rw [hq, if_neg (by decide), HGX.out, if_neg hz, if_pos hor]
         have ES := Lib.hid es
         clear es hq hz hbm hbn hB
         cases h2 : (x.1 == 2) with
         | true =>
          clear hor
          go_wp2
          go_roundg gj
          case measure => omega
          case rel => exact ⟨k + 1, by omega, by go_num, R.out.1, by rw [ES.out]; exact R.out.2.1, R.out.2.2⟩
         | false =>
          have h47 : ((c.toNat : Int) == 47) = false := (u8_eq c 47 (by omega)).trans (by
           rcases hor with h | h
           ·rw [h] at h2; cases h2
           ·exact beq_eq_false_iff_ne.2 h)
          clear hor
          go_wp2
          go_roundg gj
          case measure => omega
          case rel => exact ⟨k + 1, by omega, by go_num, R.out.1, by rw [ES.out]; exact R.out.2.1, R.out.2.2⟩
        ·have es : nextTo ps (mt ps s.data.toList i) c (k + 1) = nextTo ps (mt ps s.data.toList i) c k := by
          simp only [nextTo]; rw [hq, if_neg (by decide), HGX.out, if_neg hz, if_neg hor]
         have ES := Lib.hid es
         have h2 : (x.1 == 2) = false := beq_eq_false_iff_ne.2 (fun h => hor (.inl h))
         have h47 : ((c.toNat : Int) == 47) = true := (u8_eq c 47 (by omega)).trans (beq_iff_eq.2 (Decidable.byContradiction fun h => hor (.inr h)))
         clear es hq hz hor
         go_wp2
         go_roundg gj
         case measure => omega
         case rel => exact ⟨k + 1, by omega, by go_num, hbm, by rw [ES.out]; exact hbn, hB⟩
end Go.Proofs.YtejdmofljifkbaaGreatDoor.Gl
namespace Go.Proofs.YtejdmofljifkbaaGreatDoor.Gl
open Go.RowKit Go.Proofs.YtejdmofljifkbaaGreatDoorW.PrintWords Go.Proofs.YtejdmofljifkbaaGreatDoorW.PrintLast Go.Proofs.YtejdmofljifkbaaGreatDoorW.PrintMore
set_option linter.unusedSimpArgs false
set_option linter.unusedVariables false
structure Pos (s : ByteArray) (n : Nat) (l : List UInt8) : Prop where
 dr : s.data.toList.drop n = l
 le : n ≤ s.size
section
variable {s : ByteArray} {n : Nat} {l t : List UInt8} {c d : UInt8}
theorem Pos.len (h : Pos s n l) : n + l.length = s.size := by
 have h1 := h.le
 rw [← h.dr, List.length_drop, data_length]
 omega
theorem Pos.lt (h : Pos s n (c :: t)) : n < s.size := by have := h.len; simp at this; omega
theorem Pos.at (h : Pos s n (c :: t)) (hn : n < s.size) : s[n]'hn = c := by
 have h1 : s.data.toList[n]? = some c := by
  have := congrArg (fun l : List UInt8 => l[0]?) h.dr
  simpa using this
 rw [List.getElem?_eq_getElem (by rw [data_length]; exact hn)] at h1
 injection h1
theorem Pos.next (h : Pos s n (c :: t)) : Pos s (n + 1) t := by
 refine ⟨?_, h.lt⟩
 have := congrArg List.tail h.dr
 rw [List.tail_drop] at this
 exact this
theorem Pos.bt (h : Pos s n (c :: t)) : bt s (n : Int) = (c.toNat : Int) := by
 rw [← bt_at s (n : Int) (by have := h.lt; simpa using this)]
 have := h.at h.lt
 simp only [Int.toNat_natCast]
 rw [this]
theorem Pos.zero (s : ByteArray) : Pos s 0 s.data.toList := ⟨rfl, Nat.zero_le _⟩
end
theorem u8_ne (c : UInt8) (n : Nat) (hn : n < 256) (h : c ≠ UInt8.ofNat n) : (c.toNat : Int) ≠ (n : Int) := fun e => by
 have := u8_eq c n hn
 rw [e] at this
 simp at this
 exact h this
def MemPost (s : ByteArray) (w w' : World) (e : Ending) (l : List UInt8) : Prop :=
 ∃ v : Int, e = .returned (.tuple #[.int .u8 ((if memB l then 0 else (memC l).toNat : Nat) : Int), .int .i64 v]) ∧ Below w.heap.size w w' ∧ (memB l = true → v = -1) ∧ (memB l = false → ∃ n2 : Nat, v = n2 ∧ Pos s n2 (memR l))
theorem member_ref (s : ByteArray) (n : Nat) (l : List UInt8) (h : Pos s n l) (hs : s.size ≤ 1000) (w : World) :
  Calls Tryz.prog 126 #[.string s, .int .i64 (n : Int)] w fun e w' => MemPost s w w' e l := by
 have key : ∃ v : Int, P.oakumref25_member.f 1 s n = some ((((if memB l then 0 else (memC l).toNat : Nat)) : Int), v) ∧ (memB l = true → v = -1) ∧ (memB l = false → ∃ n2 : Nat, v = n2 ∧ Pos s n2 (memR l)) := by
  have hle := h.le
  have hw : ∀ k : Nat, k ≤ 2000 → wrap64 (k : Int) = (k : Int) := fun k hk => by unfold wrap64; omega
  cases l with
  | nil =>
   have := h.len
   simp at this
   refine ⟨-1, ?_, fun _ => rfl, fun hb => by simp [memB] at hb⟩
   unfold P.oakumref25_member.f
   rw [if_pos (by omega)]
   simp [P.oakumref25_member.j0, memB]
  | cons c t =>
   have hlt := h.lt
   have hb := h.bt
   by_cases h93 : c = 93
   ·subst h93
    refine ⟨-1, ?_, fun _ => rfl, fun hb => by simp [memB] at hb⟩
    unfold P.oakumref25_member.f
    rw [if_neg (by omega), if_pos (by omega), if_pos (by omega), hb, if_pos (by decide)]
    simp [P.oakumref25_member.j0, memB]
   have n93 := u8_ne c 93 (by omega) h93
   by_cases h45 : c = 45
   ·subst h45
    refine ⟨-1, ?_, fun _ => rfl, fun hb => by simp [memB] at hb⟩
    unfold P.oakumref25_member.f
    rw [if_neg (by omega), if_pos (by omega), if_pos (by omega), hb, if_neg (by decide)]
    simp [P.oakumref25_member.j0, memB]
   have n45 := u8_ne c 45 (by omega) h45
   have e1 : P.oakumref25_member.f 1 s n = P.oakumref25_member.j0 1 s n false := by
    unfold P.oakumref25_member.f
    rw [if_neg (by omega), if_pos (by omega), if_pos (by omega), hb, if_neg (by exact n93), show ((c.toNat : Int) == 45) = false from beq_eq_false_iff_ne.2 n45]
   rw [e1]
   have e9 : P.oakumref25_member.j0 1 s n false = (if (c.toNat : Int) = 92 then (if (wrap64 ((n : Int) + 1)) ≥ (s.size : Int) then (some (0, (-1))) else (if 0 ≤ (wrap64 ((n : Int) + 1)) then (if (wrap64 ((n : Int) + 1)) < (s.size : Int) then (some (bt s (wrap64 ((n : Int) + 1)), wrap64 ((n : Int) + 2))) else (none)) else (none))) else (some ((c.toNat : Int), wrap64 ((n : Int) + 1)))) := by
    simp only [P.oakumref25_member.j0]
    rw [if_neg (by decide), if_pos (by omega), if_pos (by omega), hb]
   rw [e9]
   by_cases h92 : c = 92
   ·subst h92
    rw [if_pos (by decide)]
    have e2 : ((n : Int) + 1) = ((n + 1 : Nat) : Int) := by omega
    have e3 : ((n : Int) + 2) = ((n + 2 : Nat) : Int) := by omega
    rw [e2, e3, hw (n + 1) (by omega), hw (n + 2) (by omega)]
    cases t with
    | nil =>
     have := h.len
     simp at this
     refine ⟨-1, ?_, fun _ => rfl, fun hb => by simp [memB] at hb⟩
     rw [if_pos (by omega)]
     simp [memB]
    | cons d t =>
     have h2 := h.next
     have hlt2 := h2.lt
     refine ⟨((n + 2 : Nat) : Int), ?_, fun hb => by simp [memB] at hb, fun _ => ⟨n + 2, rfl, ?_⟩⟩
     ·rw [if_neg (by omega), if_pos (by omega), if_pos (by omega), h2.bt]
      simp [memB, memC, tkC]
     ·exact h2.next
   have n92 := u8_ne c 92 (by omega) h92
   have hmb : memB (c :: t) = false := by simp [memB, h92, h93, h45]
   rw [if_neg (by exact n92)]
   have e2 : ((n : Int) + 1) = ((n + 1 : Nat) : Int) := by omega
   rw [e2, hw (n + 1) (by omega)]
   refine ⟨((n + 1 : Nat) : Int), ?_, fun hb => absurd hb (by rw [hmb]; decide), fun _ => ⟨n + 1, rfl, ?_⟩⟩
   ·rw [hmb]; simp [memC, h92, tkC]
   ·have : memR (c :: t) = t := by simp [memR, h92]
    rw [this]
    exact h.next
 obtain ⟨v, hf, h1, h2⟩ := key
 refine (P.oakumref25_member.calls 1 s n _ _ w hf).mono ?_
 rintro e w' ⟨rfl, hd⟩
 exact ⟨v, rfl, hd.below, h1, h2⟩
abbrev RP := Int × List (UInt8 × UInt8) × Bool
def setR : Nat → List UInt8 → List (UInt8 × UInt8) → Option (Option (List UInt8 × List (UInt8 × UInt8)))
 | 0, _, _ => none
 | k + 1, l, ps => if ps ≠ [] ∧ (l = [] ∨ l.head? = some 93) then some (if l = [] then none else some (l, ps)) else
  if partBad l = true then some none else setR k (partR l) (ps ++ [(partLo l, partHi l)])
def fst : List UInt8 → Option (RP × List UInt8)
 | [] => none
 | c :: t =>
  if c = 42 then (if t.head? = some 42 then some ((2, [], false), t.tail) else some ((1, [], false), t))
  else if c = 63 then some ((0, [], true), t)
  else if c = 92 then (match t with | [] => none | d :: t' => some ((0, [(d, d)], false), t'))
  else if c = 91 then (match setR (t.length + 2) (setStart t) [] with | some (some (l2, ps)) => some ((0, ps, setNot t), l2.tail) | _ => none)
  else some ((0, [(c, c)], false), t)
theorem memR_lt (l : List UInt8) (h : l ≠ []) : (memR l).length + 1 ≤ l.length := by
 cases l with
 | nil => exact absurd rfl h
 | cons c t => unfold memR; split <;> simp
theorem partR_lt (l : List UInt8) (h : l ≠ []) : (partR l).length + 1 ≤ l.length := by
 unfold partR
 have h1 := memR_lt l h
 split
 ·have h2 := memR_len (memR l).tail
  simp at h2
  omega
 ·exact h1
theorem partBad_nil : partBad [] = true := by decide
theorem setR_some : ∀ (k : Nat) (l : List UInt8) (ps : List (UInt8 × UInt8)), l.length < k → ∃ r, setR k l ps = some r
 | 0, l, ps, h => by omega
 | k + 1, l, ps, h => by
  simp only [setR]
  split
  ·exact ⟨_, rfl⟩
  ·split
   ·exact ⟨_, rfl⟩
   ·rename_i hb
    have hl : l ≠ [] := fun e => hb (by rw [e]; exact partBad_nil)
    have := partR_lt l hl
    exact setR_some k _ _ (by omega)
def mk (ps : List (UInt8 × UInt8)) : List Bool := ps.foldl (fun f p => rngS f p.1.toNat (p.2.toNat + 1 - p.1.toNat)) zs
theorem mk_snoc (ps : List (UInt8 × UInt8)) (p : UInt8 × UInt8) : mk (ps ++ [p]) = rngS (mk ps) p.1.toNat (p.2.toNat + 1 - p.1.toNat) := by simp [mk]
theorem setL_end {k : Nat} {b : Bool} {l : List UInt8} {f : List Bool} (h : b = false ∧ l.head? = some 93) : setL (k + 1) b l f = some (some (l, f)) := by simp only [setL]; exact if_pos h
theorem setL_bad {k : Nat} {b : Bool} {l : List UInt8} {f : List Bool} (h : ¬ (b = false ∧ l.head? = some 93)) (hb : partBad l = true) : setL (k + 1) b l f = some none := by simp only [setL]; rw [if_neg h]; exact if_pos hb
theorem setL_go {k : Nat} {b : Bool} {l : List UInt8} {f : List Bool} (h : ¬ (b = false ∧ l.head? = some 93)) (hb : ¬ partBad l = true) : setL (k + 1) b l f = setL k false (partR l) (rngS f (partLo l).toNat ((partHi l).toNat + 1 - (partLo l).toNat)) := by simp only [setL]; rw [if_neg h]; exact if_neg hb
theorem setR_end {k : Nat} {l : List UInt8} {ps : List (UInt8 × UInt8)} (h : ps ≠ []) (hl : l ≠ []) (h2 : l.head? = some 93) : setR (k + 1) l ps = some (some (l, ps)) := by simp only [setR]; rw [if_pos ⟨h, .inr h2⟩, if_neg hl]
theorem setR_nil {k : Nat} {ps : List (UInt8 × UInt8)} (h : ps ≠ []) : setR (k + 1) [] ps = some none := by simp [setR, h]
theorem setR_bad {k : Nat} {l : List UInt8} {ps : List (UInt8 × UInt8)} (h : ¬ (ps ≠ [] ∧ (l = [] ∨ l.head? = some 93))) (hb : partBad l = true) : setR (k + 1) l ps = some none := by simp only [setR]; rw [if_neg h]; exact if_pos hb
theorem setR_go {k : Nat} {l : List UInt8} {ps : List (UInt8 × UInt8)} (h : ¬ (ps ≠ [] ∧ (l = [] ∨ l.head? = some 93))) (hb : ¬ partBad l = true) : setR (k + 1) l ps = setR k (partR l) (ps ++ [(partLo l, partHi l)]) := by simp only [setR]; rw [if_neg h]; exact if_neg hb
theorem setLR : ∀ (k : Nat) (l : List UInt8) (ps : List (UInt8 × UInt8)) , l.length < k →
  setL k (ps.isEmpty) l (mk ps) = (setR k l ps).map fun o => o.map fun x => (x.1, mk x.2)
 | 0, l, ps, h => by omega
 | k + 1, l, ps, h => by
  have step : ¬ partBad l = true → setL k false (partR l) (rngS (mk ps) (partLo l).toNat ((partHi l).toNat + 1 - (partLo l).toNat)) = (setR k (partR l) (ps ++ [(partLo l, partHi l)])).map fun o => o.map fun x => (x.1, mk x.2) := fun hb => by
   have hl : l ≠ [] := fun e => hb (by rw [e]; exact partBad_nil)
   have := partR_lt l hl
   have ih := setLR k (partR l) (ps ++ [(partLo l, partHi l)]) (by omega)
   rw [mk_snoc] at ih
   have e2 : (ps ++ [(partLo l, partHi l)]).isEmpty = false := by cases ps <;> rfl
   rw [e2] at ih
   exact ih
  by_cases h1 : ps = []
  ·have n1 : ¬ (ps.isEmpty = false ∧ l.head? = some 93) := by rw [h1]; simp
   have n2 : ¬ (ps ≠ [] ∧ (l = [] ∨ l.head? = some 93)) := fun h => h.1 h1
   by_cases hb : partBad l = true
   ·rw [setL_bad n1 hb, setR_bad n2 hb]; rfl
   ·rw [setL_go n1 hb, setR_go n2 hb]; exact step hb
  ·have e1 : ps.isEmpty = false := by cases ps with | nil => exact absurd rfl h1 | cons a t => rfl
   rw [e1]
   by_cases h2 : l = []
   ·subst h2
    rw [setL_bad (fun h => by simp at h) partBad_nil, setR_nil h1]
    rfl
   ·by_cases h3 : l.head? = some 93
    ·rw [setL_end ⟨rfl, h3⟩, setR_end h1 h2 h3]
     rfl
    ·have n1 : ¬ (false = false ∧ l.head? = some 93) := fun h => h3 h.2
     have n2 : ¬ (ps ≠ [] ∧ (l = [] ∨ l.head? = some 93)) := fun h => h.2.elim h2 h3
     by_cases hb : partBad l = true
     ·rw [setL_bad n1 hb, setR_bad n2 hb]; rfl
     ·rw [setL_go n1 hb, setR_go n2 hb]; exact step hb
end Go.Proofs.YtejdmofljifkbaaGreatDoor.Gl
namespace Go.Proofs.YtejdmofljifkbaaGreatDoor.Gl
open Go.RowKit Go.Proofs.YtejdmofljifkbaaGreatDoorW.PrintWords Go.Proofs.YtejdmofljifkbaaGreatDoorW.PrintLast Go.Proofs.YtejdmofljifkbaaGreatDoorW.PrintMore
set_option linter.unusedSimpArgs false
set_option linter.unusedVariables false
def bcs (p : UInt8 × UInt8) : List Value := [.int .u8 (p.1.toNat : Int), .int .u8 (p.2.toNat : Int)]
def rowB (ps : List (UInt8 × UInt8)) : List Value := (ps.map bcs).flatten
theorem rowB_snoc (ps : List (UInt8 × UInt8)) (x : UInt8 × UInt8) : rowB (ps ++ [x]) = rowB ps ++ bcs x := by simp [rowB]
theorem bcs_one (x : UInt8 × UInt8) : ∀ u ∈ bcs x, u.oneCell' = true := by intro u hu; simp [bcs] at hu; rcases hu with rfl | rfl <;> rfl
theorem info69 : (Tryz.prog.info? 163).map (fun i => (i.zero, i.size, i.bytes)) = some (some (.agg #[.int .u8 0, .int .u8 0]), 2, 2) := by kernel_rfl
def FirstPost (w w' : World) (e : Ending) (s : ByteArray) : Option (RP × List UInt8) → Prop
 | none => e = .returned (.tuple #[.agg #[.int .i64 0, .slice none 0 0, .bool false], .int .i64 (-1)]) ∧ Below w.heap.size w w'
 | some (x, rest) => ∃ (v : Value) (n2 : Nat), e = .returned (.tuple #[.agg #[.int .i64 x.1, v, .bool x.2.2], .int .i64 (n2 : Int)]) ∧ Pos s n2 rest ∧ w'.ownsRow w.heap.size 163 2 v x.2.1.length (rowB x.2.1) ∧ Below w.heap.size w w'
def fst91 (t : List UInt8) : Option (Option (List UInt8 × List (UInt8 × UInt8))) → Option (RP × List UInt8)
 | some (some (l2, ps)) => some ((0, ps, setNot t), l2.tail)
 | _ => none
def fst92 : List UInt8 → Option (RP × List UInt8)
 | [] => none
 | d :: t' => some ((0, [(d, d)], false), t')
def fst42 (t : List UInt8) : Option (RP × List UInt8) := if t.head? = some 42 then some ((2, [], false), t.tail) else some ((1, [], false), t)
theorem fst_42 (t : List UInt8) : fst (42 :: t) = fst42 t := by simp only [fst]; exact if_pos trivial
theorem fst_63 (t : List UInt8) : fst (63 :: t) = some ((0, [], true), t) := by simp only [fst]; rw [if_neg (by decide)]; exact if_pos trivial
theorem fst_92 (t : List UInt8) : fst (92 :: t) = fst92 t := by
 simp only [fst]
 rw [if_neg (by decide), if_neg (by decide)]
 refine (if_pos trivial).trans ?_
 cases t <;> rfl
theorem fst_91 (t : List UInt8) : fst (91 :: t) = fst91 t (setR (t.length + 2) (setStart t) []) := by
 simp only [fst]
 rw [if_neg (by decide), if_neg (by decide), if_neg (by decide)]
 refine (if_pos trivial).trans ?_
 rcases setR (t.length + 2) (setStart t) [] with _ | _ | ⟨l2, ps⟩ <;> rfl
theorem fst_o {c : UInt8} (t : List UInt8) (h1 : c ≠ 42) (h2 : c ≠ 63) (h3 : c ≠ 92) (h4 : c ≠ 91) : fst (c :: t) = some ((0, [(c, c)], false), t) := by
 simp only [fst]
 rw [if_neg h1, if_neg h2, if_neg h3, if_neg h4]
theorem own_one2 (w : World) (o : Obj) (p : UInt8 × UInt8) : ((w.alloc o).alloc (.cells #[.int .u8 (p.1.toNat : Int), .int .u8 (p.2.toNat : Int)] 163)).drew.ownsRow w.heap.size 163 2 (.slice (some ⟨w.heap.size + 1, 0, none⟩) 1 1) 1 (rowB [p]) := by
 have h := World.ownsRow_lit (base := w.heap.size) (e := 163) (size := 2) (w.alloc o) #[.int .u8 (p.1.toNat : Int), .int .u8 (p.2.toNat : Int)] 1 (by simp) (by simp [maxLen]) rfl
 have e : (w.alloc o).heap.size = w.heap.size + 1 := by simp
 rw [e] at h
 exact h.drew
set_option maxRecDepth 100000 in
set_option maxHeartbeats 3200000 in
theorem first_o (s : ByteArray) (n : Nat) (c : UInt8) (t : List UInt8) (e91 : c ≠ 91) (hp : Pos s n (c :: t)) (hs : s.size ≤ 1000) (w : World) :
  Calls Tryz.prog 94 #[.string s, .int .i64 (n : Int)] w fun e w' => FirstPost w w' e s (fst (c :: t)) := by
 have hlt := hp.lt
 have hat := hp.at hlt
 have HP := Lib.hid hp
 clear hp
 obtain ⟨r, hr⟩ : ∃ r, fst (c :: t) = r := ⟨_, rfl⟩
 rw [hr]
 have HR := Lib.hid hr
 clear hr
 go_enter Tryz.func94, Tryz.ntmps94
 by_cases e42 : c = 42
 ·have hr := HR.out
  subst e42
  rw [fst_42] at hr
  have HR := Lib.hid hr
  clear hr
  have q42 : (((42 : UInt8).toNat : Int) == 42) = true := rfl
  by_cases ht : t.head? = some 42
  ·obtain ⟨t2, rfl⟩ : ∃ t2, t = 42 :: t2 := by
    cases t with
    | nil => simp at ht
    | cons a t2 => simp at ht; exact ⟨t2, by rw [ht]⟩
   have hp2 := HP.out.next
   have hlt2 := hp2.lt
   have hat2 := hp2.at hlt2
   have hr : r = some ((2, [], false), t2) := HR.out.symm
   subst hr
   have HP3 := Lib.hid hp2.next
   clear hp2 HP HR ht
   go_wp2
   (try simp only [Exit.inBlock, Exit.then])
   refine bodyPost_ret (v := .tuple #[.agg #[.int .i64 2, .slice none 0 0, .bool false], .int .i64 ((n : Int) + 2)]) (by rw [results_cell_tmp rfl]; go_simp) rfl ⟨_, n + 1 + 1, ?_, HP3.out, own_nil _ _ _ _, by (repeat' (first | exact Below.refl _ _ | refine Below.drew ?_ | refine Below.setCell ?_ (by simp <;> omega) _ | refine Below.alloc ?_ (by simp <;> omega) _))⟩
   rfl
  ·have hr : r = some ((1, [], false), t) := by
    have := HR.out
    unfold fst42 at this
    rw [if_neg ht] at this
    exact this.symm
   subst hr
   have HP3 := Lib.hid HP.out.next
   clear HR
   cases t with
   | nil =>
    have hl := HP.out.len
    have hnx : ¬ (n : Int) + 1 < (s.size : Int) := by simp at hl; omega
    clear hl HP ht
    go_wp2
    (try simp only [Exit.inBlock, Exit.then])
    refine bodyPost_ret (v := .tuple #[.agg #[.int .i64 1, .slice none 0 0, .bool false], .int .i64 ((n : Int) + 1)]) (by rw [results_cell_tmp rfl]; go_simp) rfl ⟨_, n + 1, ?_, HP3.out, own_nil _ _ _ _, by (repeat' (first | exact Below.refl _ _ | refine Below.drew ?_ | refine Below.setCell ?_ (by simp <;> omega) _ | refine Below.alloc ?_ (by simp <;> omega) _))⟩
    rfl
   | cons a t2 =>
    have hlt2 := HP.out.next.lt
    have hat2 := HP.out.next.at hlt2
    have hnx : ((a.toNat : Int) == 42) = false := beq_eq_false_iff_ne.2 (u8_ne a 42 (by omega) (fun e => ht (by rw [e]; rfl)))
    clear HP ht
    go_wp2
    (try simp only [Exit.inBlock, Exit.then])
    refine bodyPost_ret (v := .tuple #[.agg #[.int .i64 1, .slice none 0 0, .bool false], .int .i64 ((n : Int) + 1)]) (by rw [results_cell_tmp rfl]; go_simp) rfl ⟨_, n + 1, ?_, HP3.out, own_nil _ _ _ _, by (repeat' (first | exact Below.refl _ _ | refine Below.drew ?_ | refine Below.setCell ?_ (by simp <;> omega) _ | refine Below.alloc ?_ (by simp <;> omega) _))⟩
    rfl
 have n42 : ((c.toNat : Int) == 42) = false := beq_eq_false_iff_ne.2 (u8_ne c 42 (by omega) e42)
 by_cases e63 : c = 63
 ·have hr := HR.out
  subst e63
  rw [fst_63] at hr
  subst hr
  have q63 : (((63 : UInt8).toNat : Int) == 63) = true := rfl
  have HP3 := Lib.hid HP.out.next
  clear HR HP
  go_wp2
  (try simp only [Exit.inBlock, Exit.then])
  refine bodyPost_ret (v := .tuple #[.agg #[.int .i64 0, .slice none 0 0, .bool true], .int .i64 ((n : Int) + 1)]) (by rw [results_cell_tmp rfl]; go_simp) rfl ⟨_, n + 1, ?_, HP3.out, own_nil _ _ _ _, by (repeat' (first | exact Below.refl _ _ | refine Below.drew ?_ | refine Below.setCell ?_ (by simp <;> omega) _ | refine Below.alloc ?_ (by simp <;> omega) _))⟩
  rfl
 have n63 : ((c.toNat : Int) == 63) = false := beq_eq_false_iff_ne.2 (u8_ne c 63 (by omega) e63)
 by_cases e92 : c = 92
 ·have hr := HR.out
  subst e92
  rw [fst_92] at hr
  have q92 : (((92 : UInt8).toNat : Int) == 92) = true := rfl
  cases t with
  | nil =>
   have hr : r = none := hr.symm
   subst hr
   have hl := HP.out.len
   have hnx : ((s.size : Int) ≤ (n : Int) + 1) := by simp at hl; omega
   clear hl HP HR
   go_wp2
   (try simp only [Exit.inBlock, Exit.then])
   refine bodyPost_ret (v := .tuple #[.agg #[.int .i64 0, .slice none 0 0, .bool false], .int .i64 (-1)]) (by rw [results_cell_tmp rfl]; go_simp) rfl ⟨rfl, by (repeat' (first | exact Below.refl _ _ | refine Below.drew ?_ | refine Below.setCell ?_ (by simp <;> omega) _ | refine Below.alloc ?_ (by simp <;> omega) _))⟩
  | cons d t2 =>
   have hr : r = some ((0, [(d, d)], false), t2) := hr.symm
   subst hr
   have hlt2 := HP.out.next.lt
   have hat2 := HP.out.next.at hlt2
   have HP3 := Lib.hid HP.out.next.next
   have hw1 : wrap64 ((n : Int) + 1) = (n : Int) + 1 := by unfold wrap64; omega
   have hw2 : wrap64 ((n : Int) + 2) = (n : Int) + 2 := by unfold wrap64; omega
   have hnn : (0 : Int) ≤ (n : Int) + 1 := by omega
   clear HP HR
   go_wp2_with fail
   refine start_ (n := 15) (S := fun w' => True) (ds := [13]) #[false, false, false, false, false, false, false, false, false, false, false, false, false, false, false] (by kernel_rfl) rfl rfl trivial (fun hHeld => ?_)
   refine pure_ (i := 0) (N := some 46) (v := ?_) (a' := ?_) #[true, false, false, false, false, false, false, false, false, false, false, false, false, false, false] rfl rfl (by kernel_rfl) (fun _ _ _ h => h) (Or.inl ⟨by rfl, ?_⟩) ?_ ?_
   rotate_left
   ·intro w'
    go_simp
    with_reducible rfl
   rotate_left
   ·simp only [Act.put, List.setIfInBounds_toArray, List.set_cons_zero, List.set_cons_succ, i64_w, i32_w]
    rfl
   refine pure_ (i := 1) (N := some 47) (v := ?_) (a' := ?_) #[true, true, false, false, false, false, false, false, false, false, false, false, false, false, false] rfl rfl (by kernel_rfl) (fun _ _ _ h => h) (Or.inl ⟨by rfl, ?_⟩) ?_ ?_
   rotate_left
   ·intro w'
    go_simp
    with_reducible rfl
   rotate_left
   ·simp only [Act.put, List.setIfInBounds_toArray, List.set_cons_zero, List.set_cons_succ, i64_w, i32_w]
    rfl
   refine pure_ (i := 2) (N := some 48) (v := ?_) (a' := ?_) #[true, true, true, false, false, false, false, false, false, false, false, false, false, false, false] rfl rfl (by kernel_rfl) (fun _ _ _ h => h) (Or.inl ⟨by rfl, ?_⟩) ?_ ?_
   rotate_left
   ·intro w'
    go_simp
    with_reducible rfl
   rotate_left
   ·simp only [Act.put, List.setIfInBounds_toArray, List.set_cons_zero, List.set_cons_succ, i64_w, i32_w]
    rfl
   refine pure_ (i := 4) (N := some 50) (v := ?_) (a' := ?_) #[true, true, true, false, true, false, false, false, false, false, false, false, false, false, false] rfl rfl (by kernel_rfl) (fun _ _ _ h => h) (Or.inl ⟨by rfl, ?_⟩) ?_ ?_
   rotate_left
   ·intro w'
    go_simp
    with_reducible rfl
   rotate_left
   ·simp only [Act.put, List.setIfInBounds_toArray, List.set_cons_zero, List.set_cons_succ, i64_w, i32_w]
    rfl
   refine pure_ (i := 5) (N := some 51) (v := ?_) (a' := ?_) #[true, true, true, false, true, true, false, false, false, false, false, false, false, false, false] rfl rfl (by kernel_rfl) (fun _ _ _ h => h) (Or.inl ⟨by rfl, ?_⟩) ?_ ?_
   rotate_left
   ·intro w'
    go_simp
    with_reducible rfl
   rotate_left
   ·simp only [Act.put, List.setIfInBounds_toArray, List.set_cons_zero, List.set_cons_succ, i64_w, i32_w]
    rfl
   refine pure_ (i := 6) (N := some 52) (v := ?_) (a' := ?_) #[true, true, true, false, true, true, true, false, false, false, false, false, false, false, false] rfl rfl (by kernel_rfl) (fun _ _ _ h => h) (Or.inl ⟨by rfl, ?_⟩) ?_ ?_
   rotate_left
   ·intro w'
    go_simp
    with_reducible rfl
   rotate_left
   ·simp only [Act.put, List.setIfInBounds_toArray, List.set_cons_zero, List.set_cons_succ, i64_w, i32_w]
    rfl
   refine pure_ (i := 11) (N := some 57) (v := ?_) (a' := ?_) #[true, true, true, false, true, true, true, false, false, false, false, true, false, false, false] rfl rfl (by kernel_rfl) (fun _ _ _ h => h) (Or.inl ⟨by rfl, ?_⟩) ?_ ?_
   rotate_left
   ·intro w'
    go_simp
    with_reducible rfl
   rotate_left
   ·simp only [Act.put, List.setIfInBounds_toArray, List.set_cons_zero, List.set_cons_succ, i64_w, i32_w]
    rfl
   refine pure_ (i := 12) (N := some 58) (v := ?_) (a' := ?_) #[true, true, true, false, true, true, true, false, false, false, false, true, true, false, false] rfl rfl (by kernel_rfl) (fun _ _ _ h => h) (Or.inl ⟨by rfl, ?_⟩) ?_ ?_
   rotate_left
   ·intro w'
    go_simp
    with_reducible rfl
   rotate_left
   ·simp only [Act.put, List.setIfInBounds_toArray, List.set_cons_zero, List.set_cons_succ, i64_w, i32_w]
    rfl
   refine take_ (i := 3) (N := some 49) (v := ?_) (a' := ?_) #[true, true, true, true, true, true, true, false, false, false, false, true, true, false, false] rfl rfl (by kernel_rfl) (fun _ _ _ h => h) (Or.inl ⟨by rfl, ?_⟩) hHeld ?_ ?_
   rotate_left
   ·intro w' _
    go_simp
    with_reducible rfl
   rotate_left
   ·simp only [Act.put, List.setIfInBounds_toArray, List.set_cons_zero, List.set_cons_succ, i64_w, i32_w]
    rfl
   refine take_ (i := 7) (N := some 53) (v := ?_) (a' := ?_) #[true, true, true, true, true, true, true, true, false, false, false, true, true, false, false] rfl rfl (by kernel_rfl) (fun _ _ _ h => h) (Or.inl ⟨by rfl, ?_⟩) hHeld ?_ ?_
   rotate_left
   ·intro w' _
    go_simp
    with_reducible rfl
   rotate_left
   ·simp only [Act.put, List.setIfInBounds_toArray, List.set_cons_zero, List.set_cons_succ, i64_w, i32_w]
    rfl
   refine pure_ (i := 8) (N := some 54) (v := ?_) (a' := ?_) #[true, true, true, true, true, true, true, true, true, false, false, true, true, false, false] rfl rfl (by kernel_rfl) (fun _ _ _ h => h) (Or.inl ⟨by rfl, ?_⟩) ?_ ?_
   rotate_left
   ·intro w'
    go_simp
    with_reducible rfl
   rotate_left
   ·simp only [Act.put, List.setIfInBounds_toArray, List.set_cons_zero, List.set_cons_succ, i64_w, i32_w]
    rfl
   refine one_ (i := 9) (N := some 55) #[true, true, true, true, true, true, true, true, true, true, false, true, true, false, false] rfl rfl (by kernel_rfl) (by decide) (fun K hK => ?_)
   refine value_ (w1 := ?_) (v := ?_) (by rfl) rfl ?_ ?_
   rotate_left 2
   ·go_simp
    constructor
    ·rfl
    ·rfl
   refine hK.out _ _ trivial (fun hHeld => ?_)
   clear hK K
   refine norm_ (a' := ?_) ?_ ?_
   rotate_left
   ·show Act.put _ (some 55) _ = _
    simp only [Act.put, List.setIfInBounds_toArray, List.set_cons_zero, List.set_cons_succ, i64_w, i32_w]
    rfl
   refine pure_ (i := 10) (N := some 56) (v := ?_) (a' := ?_) #[true, true, true, true, true, true, true, true, true, true, true, true, true, false, false] rfl rfl (by kernel_rfl) (fun _ _ _ h => h) (Or.inl ⟨by rfl, ?_⟩) ?_ ?_
   rotate_left
   ·intro w'
    go_simp
    with_reducible rfl
   rotate_left
   ·simp only [Act.put, List.setIfInBounds_toArray, List.set_cons_zero, List.set_cons_succ, i64_w, i32_w]
    rfl
   refine last_ (i := 13) (N := none) #[true, true, true, true, true, true, true, true, true, true, true, true, true, true, false] rfl rfl (by kernel_rfl) (by decide) (fun K hK => ?_)
   refine skip_ (w1 := ?_) (by rfl) rfl ?_ ?_
   rotate_left
   ·go_simp
    rfl
   refine hK.out _ _ ?_
   clear hK K
   refine pure_ (i := 14) (N := some 5) (v := ?_) (a' := ?_) #[true, true, true, true, true, true, true, true, true, true, true, true, true, true, true] rfl rfl (by kernel_rfl) (fun _ _ _ h => h) (Or.inl ⟨by rfl, ?_⟩) ?_ ?_
   rotate_left
   ·intro w'
    go_simp
    with_reducible rfl
   rotate_left
   ·simp only [Act.put, List.setIfInBounds_toArray, List.set_cons_zero, List.set_cons_succ, i64_w, i32_w]
    rfl
   refine done_ (by kernel_rfl) ?_
   go_wp2
   (try simp only [Exit.inBlock, Exit.then])
   refine bodyPost_ret (v := .tuple #[.agg #[.int .i64 0, .slice (some ⟨w.heap.size + 1, 0, none⟩) 1 1, .bool false], .int .i64 ((n : Int) + 2)]) (by rw [results_cell_tmp rfl]; go_simp) rfl ⟨.slice (some ⟨w.heap.size + 1, 0, none⟩) 1 1, n + 1 + 1, ?_, HP3.out, ?_, by (repeat' (first | exact Below.refl _ _ | refine Below.drew ?_ | refine Below.setCell ?_ (by simp <;> omega) _ | refine Below.alloc ?_ (by simp <;> omega) _))⟩
   ·rfl
   ·exact own_one2 w _ (d, d)
 have n92 : ((c.toNat : Int) == 92) = false := beq_eq_false_iff_ne.2 (u8_ne c 92 (by omega) e92)
 have n91 : ((c.toNat : Int) == 91) = false := beq_eq_false_iff_ne.2 (u8_ne c 91 (by omega) e91)
 have hr : r = some ((0, [(c, c)], false), t) := by rw [← HR.out]; exact fst_o t e42 e63 e92 e91
 subst hr
 have HP3 := Lib.hid HP.out.next
 have hw1 : wrap64 ((n : Int) + 1) = (n : Int) + 1 := by unfold wrap64; omega
 clear HP HR e42 e63 e92 e91
 go_wp2_with fail
 refine start_ (n := 13) (S := fun w' => True) (ds := [11]) #[false, false, false, false, false, false, false, false, false, false, false, false, false] (by kernel_rfl) rfl rfl trivial (fun hHeld => ?_)
 refine pure_ (i := 0) (N := some 144) (v := ?_) (a' := ?_) #[true, false, false, false, false, false, false, false, false, false, false, false, false] rfl rfl (by kernel_rfl) (fun _ _ _ h => h) (Or.inl ⟨by rfl, ?_⟩) ?_ ?_
 rotate_left
 ·intro w'
  go_simp
  with_reducible rfl
 rotate_left
 ·simp only [Act.put, List.setIfInBounds_toArray, List.set_cons_zero, List.set_cons_succ, i64_w, i32_w]
  rfl
 refine pure_ (i := 1) (N := some 145) (v := ?_) (a' := ?_) #[true, true, false, false, false, false, false, false, false, false, false, false, false] rfl rfl (by kernel_rfl) (fun _ _ _ h => h) (Or.inl ⟨by rfl, ?_⟩) ?_ ?_
 rotate_left
 ·intro w'
  go_simp
  with_reducible rfl
 rotate_left
 ·simp only [Act.put, List.setIfInBounds_toArray, List.set_cons_zero, List.set_cons_succ, i64_w, i32_w]
  rfl
 refine pure_ (i := 3) (N := some 147) (v := ?_) (a' := ?_) #[true, true, false, true, false, false, false, false, false, false, false, false, false] rfl rfl (by kernel_rfl) (fun _ _ _ h => h) (Or.inl ⟨by rfl, ?_⟩) ?_ ?_
 rotate_left
 ·intro w'
  go_simp
  with_reducible rfl
 rotate_left
 ·simp only [Act.put, List.setIfInBounds_toArray, List.set_cons_zero, List.set_cons_succ, i64_w, i32_w]
  rfl
 refine pure_ (i := 4) (N := some 148) (v := ?_) (a' := ?_) #[true, true, false, true, true, false, false, false, false, false, false, false, false] rfl rfl (by kernel_rfl) (fun _ _ _ h => h) (Or.inl ⟨by rfl, ?_⟩) ?_ ?_
 rotate_left
 ·intro w'
  go_simp
  with_reducible rfl
 rotate_left
 ·simp only [Act.put, List.setIfInBounds_toArray, List.set_cons_zero, List.set_cons_succ, i64_w, i32_w]
  rfl
 refine pure_ (i := 9) (N := some 153) (v := ?_) (a' := ?_) #[true, true, false, true, true, false, false, false, false, true, false, false, false] rfl rfl (by kernel_rfl) (fun _ _ _ h => h) (Or.inl ⟨by rfl, ?_⟩) ?_ ?_
 rotate_left
 ·intro w'
  go_simp
  with_reducible rfl
 rotate_left
 ·simp only [Act.put, List.setIfInBounds_toArray, List.set_cons_zero, List.set_cons_succ, i64_w, i32_w]
  rfl
 refine pure_ (i := 10) (N := some 154) (v := ?_) (a' := ?_) #[true, true, false, true, true, false, false, false, false, true, true, false, false] rfl rfl (by kernel_rfl) (fun _ _ _ h => h) (Or.inl ⟨by rfl, ?_⟩) ?_ ?_
 rotate_left
 ·intro w'
  go_simp
  with_reducible rfl
 rotate_left
 ·simp only [Act.put, List.setIfInBounds_toArray, List.set_cons_zero, List.set_cons_succ, i64_w, i32_w]
  rfl
 refine take_ (i := 2) (N := some 146) (v := ?_) (a' := ?_) #[true, true, true, true, true, false, false, false, false, true, true, false, false] rfl rfl (by kernel_rfl) (fun _ _ _ h => h) (Or.inl ⟨by rfl, ?_⟩) hHeld ?_ ?_
 rotate_left
 ·intro w' _
  go_simp
  with_reducible rfl
 rotate_left
 ·simp only [Act.put, List.setIfInBounds_toArray, List.set_cons_zero, List.set_cons_succ, i64_w, i32_w]
  rfl
 refine take_ (i := 5) (N := some 149) (v := ?_) (a' := ?_) #[true, true, true, true, true, true, false, false, false, true, true, false, false] rfl rfl (by kernel_rfl) (fun _ _ _ h => h) (Or.inl ⟨by rfl, ?_⟩) hHeld ?_ ?_
 rotate_left
 ·intro w' _
  go_simp
  with_reducible rfl
 rotate_left
 ·simp only [Act.put, List.setIfInBounds_toArray, List.set_cons_zero, List.set_cons_succ, i64_w, i32_w]
  rfl
 refine pure_ (i := 6) (N := some 150) (v := ?_) (a' := ?_) #[true, true, true, true, true, true, true, false, false, true, true, false, false] rfl rfl (by kernel_rfl) (fun _ _ _ h => h) (Or.inl ⟨by rfl, ?_⟩) ?_ ?_
 rotate_left
 ·intro w'
  go_simp
  with_reducible rfl
 rotate_left
 ·simp only [Act.put, List.setIfInBounds_toArray, List.set_cons_zero, List.set_cons_succ, i64_w, i32_w]
  rfl
 refine one_ (i := 7) (N := some 151) #[true, true, true, true, true, true, true, true, false, true, true, false, false] rfl rfl (by kernel_rfl) (by decide) (fun K hK => ?_)
 refine value_ (w1 := ?_) (v := ?_) (by rfl) rfl ?_ ?_
 rotate_left 2
 ·go_simp
  constructor
  ·rfl
  ·rfl
 refine hK.out _ _ trivial (fun hHeld => ?_)
 clear hK K
 refine norm_ (a' := ?_) ?_ ?_
 rotate_left
 ·show Act.put _ (some 151) _ = _
  simp only [Act.put, List.setIfInBounds_toArray, List.set_cons_zero, List.set_cons_succ, i64_w, i32_w]
  rfl
 refine pure_ (i := 8) (N := some 152) (v := ?_) (a' := ?_) #[true, true, true, true, true, true, true, true, true, true, true, false, false] rfl rfl (by kernel_rfl) (fun _ _ _ h => h) (Or.inl ⟨by rfl, ?_⟩) ?_ ?_
 rotate_left
 ·intro w'
  go_simp
  with_reducible rfl
 rotate_left
 ·simp only [Act.put, List.setIfInBounds_toArray, List.set_cons_zero, List.set_cons_succ, i64_w, i32_w]
  rfl
 refine last_ (i := 11) (N := none) #[true, true, true, true, true, true, true, true, true, true, true, true, false] rfl rfl (by kernel_rfl) (by decide) (fun K hK => ?_)
 refine skip_ (w1 := ?_) (by rfl) rfl ?_ ?_
 rotate_left
 ·go_simp
  rfl
 refine hK.out _ _ ?_
 clear hK K
 refine pure_ (i := 12) (N := some 5) (v := ?_) (a' := ?_) #[true, true, true, true, true, true, true, true, true, true, true, true, true] rfl rfl (by kernel_rfl) (fun _ _ _ h => h) (Or.inl ⟨by rfl, ?_⟩) ?_ ?_
 rotate_left
 ·intro w'
  go_simp
  with_reducible rfl
 rotate_left
 ·simp only [Act.put, List.setIfInBounds_toArray, List.set_cons_zero, List.set_cons_succ, i64_w, i32_w]
  rfl
 refine done_ (by kernel_rfl) ?_
 go_wp2
 (try simp only [Exit.inBlock, Exit.then])
 refine bodyPost_ret (v := .tuple #[.agg #[.int .i64 0, .slice (some ⟨w.heap.size + 1, 0, none⟩) 1 1, .bool false], .int .i64 ((n : Int) + 1)]) (by rw [results_cell_tmp rfl]; go_simp) rfl ⟨.slice (some ⟨w.heap.size + 1, 0, none⟩) 1 1, n + 1, ?_, HP3.out, ?_, by (repeat' (first | exact Below.refl _ _ | refine Below.drew ?_ | refine Below.setCell ?_ (by simp <;> omega) _ | refine Below.alloc ?_ (by simp <;> omega) _))⟩
 ·rfl
 ·exact own_one2 w _ (c, c)
end Go.Proofs.YtejdmofljifkbaaGreatDoor.Gl
namespace Go.Proofs.YtejdmofljifkbaaGreatDoor.Gl
open Go.RowKit Go.Proofs.YtejdmofljifkbaaGreatDoorW.PrintWords Go.Proofs.YtejdmofljifkbaaGreatDoorW.PrintLast Go.Proofs.YtejdmofljifkbaaGreatDoorW.PrintMore
set_option linter.unusedSimpArgs false
set_option linter.unusedVariables false
structure FS (w0 w : World) (R B : Nat) (ps : List (UInt8 × UInt8)) (b : Bool) (v : Value) : Prop where
 rb : w.heap[R]? = some (.cells #[.int .i64 0, .slice none 0 0, .bool false] 137 (0, 0))
 xb : w.heap[R + 1]? = some (.cells #[.int .i64 0, v, .bool b] 137 (0, 0))
 hB : B = R + 2
 hR : R = w0.heap.size
 own : w.ownsRow B 163 2 v ps.length (rowB ps)
 bel : Below w0.heap.size w0 w
theorem own_set3 {w : World} {B R : Nat} {e : TypeId} {size n : Nat} {v : Value} {xs : List Value} (h : w.ownsRow B e size v n xs) (hne : v.ownBlock ≠ some R) (a b c : Value) :
  (((w.setCell ⟨R, 0, none⟩ a).setCell ⟨R, 1, none⟩ b).setCell ⟨R, 2, none⟩ c).ownsRow B e size v n xs :=
 own_move h (fun k hk => by
  have hk2 : k ≠ R := by rintro rfl; exact hne hk
  exact ((Below.heap_setCell _ _ _ k hk2).trans (Below.heap_setCell _ _ _ k hk2)).trans (Below.heap_setCell _ _ _ k hk2))
theorem partBad_of {l : List UInt8} (h : partB l = true) : partBad l = true := by unfold partBad; rw [h]; rfl
theorem FS.c1' {w : World} {X : Nat} {a v b : Value} (h : w.heap[X]? = some (.cells #[a, v, b] 137 (0, 0))) : w.cell? ⟨X, 1, none⟩ = some v := cell_of_row w X 1 _ 137 (0, 0) h
theorem FS.f1' {w : World} {X : Nat} {a v b : Value} (h : w.heap[X]? = some (.cells #[a, v, b] 137 (0, 0))) : w.frozen? ⟨X, 1, none⟩ = false := frozen_of_row w X 1 _ 137 h
def goB (ps : List (UInt8 × UInt8)) (l : List UInt8) : Bool := ps.isEmpty || (match l with | [] => false | c :: _ => c != 93)
theorem FS.start (w : World) (b : Bool) : FS w ((w.alloc (.cells #[.int .i64 0, .slice none 0 0, .bool false] 137)).alloc (.cells #[.int .i64 0, .slice none 0 0, .bool b] 137)) w.heap.size (w.heap.size + 2) [] b (.slice none 0 0) := by
 have e : (w.alloc (.cells #[.int .i64 0, .slice none 0 0, .bool false] 137)).heap.size = w.heap.size + 1 := by simp
 refine ⟨?_, ?_, rfl, rfl, own_nil _ _ _ _, by (repeat' (first | exact Below.refl _ _ | refine Below.drew ?_ | refine Below.setCell ?_ (by simp <;> omega) _ | refine Below.alloc ?_ (by simp <;> omega) _))⟩
 ·exact (Below.heap_alloc _ _ _ (by simp)).trans (heap_alloc_new w _)
 ·rw [← e]; exact heap_alloc_new _ _
section
variable {w0 W1 w2 : World} {R B : Nat} {ps : List (UInt8 × UInt8)} {b : Bool} {v : Value} {o : Obj}
theorem FS.lt (h : FS w0 W1 R B ps b v) : R + 1 < W1.heap.size := (Array.getElem?_eq_some_iff.1 h.xb).1
theorem FS.below (h : FS w0 W1 R B ps b v) (hb : Below W1.heap.size W1 w2) : FS w0 w2 R B ps b v :=
 ⟨(hb.block R (by have := h.lt; omega)).trans h.rb, (hb.block (R + 1) h.lt).trans h.xb, h.hB, h.hR, pw_own_below h.own hb, h.bel.trans (hb.mono (by have := h.lt; have := h.hR; omega))⟩
theorem FS.apart (h : FS w0 W1 R B ps b v) : v.ownBlock ≠ some R ∧ v.ownBlock ≠ some (R + 1) :=
 ⟨fun e => by have := own_base h.own _ e; have := h.hB; omega, fun e => by have := own_base h.own _ e; have := h.hB; omega⟩
theorem FS.c0 (h : FS w0 W1 R B ps b v) : W1.cell? ⟨R + 1, 0, none⟩ = some (.int .i64 0) := cell_of_row W1 (R + 1) 0 _ 137 (0, 0) h.xb
theorem FS.c1 (h : FS w0 W1 R B ps b v) : W1.cell? ⟨R + 1, 1, none⟩ = some v := cell_of_row W1 (R + 1) 1 _ 137 (0, 0) h.xb
theorem FS.c2 (h : FS w0 W1 R B ps b v) : W1.cell? ⟨R + 1, 2, none⟩ = some (.bool b) := cell_of_row W1 (R + 1) 2 _ 137 (0, 0) h.xb
theorem FS.r0 (h : FS w0 W1 R B ps b v) : W1.cell? ⟨R, 0, none⟩ = some (.int .i64 0) := cell_of_row W1 R 0 _ 137 (0, 0) h.rb
theorem FS.r1 (h : FS w0 W1 R B ps b v) : W1.cell? ⟨R, 1, none⟩ = some (.slice none 0 0) := cell_of_row W1 R 1 _ 137 (0, 0) h.rb
theorem FS.r2 (h : FS w0 W1 R B ps b v) : W1.cell? ⟨R, 2, none⟩ = some (.bool false) := cell_of_row W1 R 2 _ 137 (0, 0) h.rb
theorem FS.fr (h : FS w0 W1 R B ps b v) (i : Nat) : W1.frozen? ⟨R, i, none⟩ = false := frozen_of_row W1 R i _ 137 h.rb
theorem FS.fx (h : FS w0 W1 R B ps b v) (i : Nat) : W1.frozen? ⟨R + 1, i, none⟩ = false := frozen_of_row W1 (R + 1) i _ 137 h.xb
theorem fs_o (h : FS w0 W1 R B ps b v) : (W1.alloc o).ownsRow B 163 2 v ps.length (rowB ps) := h.own.alloc o
theorem fs_n (W1 : World) (x : UInt8 × UInt8) : ∀ j u, (bcs x)[j]? = some u → (W1.alloc (.cells #[.int .u8 (x.1.toNat : Int), .int .u8 (x.2.toNat : Int)] 163)).cell? ((⟨W1.heap.size, 0, none⟩ : Addr).add j) = some u :=
 fun j u hu => World.news_of_block (cs := (bcs x).toArray) (t := 163) (fr := (0, 0)) (heap_alloc_new W1 _) j u hu
theorem fs_b (h : FS w0 W1 R B ps b v) : B ≤ (W1.alloc o).heap.size := by have := h.lt; have := h.hB; simp; omega
theorem fs_blk (h : FS w0 W1 R B ps b v) (hgr : (W1.alloc o).grownBy w2 v.ownBlock) : w2.heap[R]? = some (.cells #[.int .i64 0, .slice none 0 0, .bool false] 137 (0, 0)) ∧ w2.heap[R + 1]? = some (.cells #[.int .i64 0, v, .bool b] 137 (0, 0)) := by
 have hl := h.lt
 constructor
 ·exact ((hgr.block R (by simp; omega) (fun e => h.apart.1 e.symm)).trans (Below.heap_alloc W1 o R (by omega))).trans h.rb
 ·exact ((hgr.block (R + 1) (by simp; omega) (fun e => h.apart.2 e.symm)).trans (Below.heap_alloc W1 o (R + 1) (by omega))).trans h.xb
theorem FS.not {w0 W1 : World} {R B : Nat} (h : FS w0 W1 R B [] false (.slice none 0 0)) : FS w0 (W1.setCell ⟨R + 1, 2, none⟩ (.bool true)) R B [] true (.slice none 0 0) :=
 ⟨(Below.heap_setCell W1 _ _ R (by simp)).trans h.rb, heap_setCell_same W1 (R + 1) 2 _ 137 (.bool true) h.xb, h.hB, h.hR, own_nil _ _ _ _, h.bel.setCell (by have := h.hR; show w0.heap.size ≤ R + 1; omega) _⟩
theorem FS.push (h : FS w0 W1 R B ps b v) (x : UInt8 × UInt8) {v2 : Value} (hown : w2.ownsRow B 163 2 v2 (ps.length + 1) (rowB ps ++ bcs x)) (hgr : (W1.alloc o).grownBy w2 v.ownBlock) :
  FS w0 (w2.setCell ⟨R + 1, 1, none⟩ v2) R B (ps ++ [x]) b v2 := by
 obtain ⟨h1, h2⟩ := fs_blk h hgr
 have hne : ∀ k, v2.ownBlock = some k → k ≠ R + 1 := fun k hk e => by have := own_base hown k hk; have := h.hB; omega
 have hl := h.lt
 refine ⟨(Below.heap_setCell w2 _ _ R (by simp)).trans h1, heap_setCell_same w2 (R + 1) 1 _ 137 v2 h2, h.hB, h.hR, ?_, ?_⟩
 ·rw [rowB_snoc, List.length_append, List.length_singleton]
  exact own_move hown (fun k hk => Below.heap_setCell w2 _ _ k (hne k hk))
 ·exact (((h.bel.alloc (by have := h.hR; omega) o).grown hgr (by have := h.hR; simp; omega) (fun k hk => by have := own_base h.own k hk; have := h.hB; have := h.hR; omega))).setCell (by have := h.hR; show w0.heap.size ≤ R + 1; omega) _
end
set_option maxRecDepth 100000 in
set_option maxHeartbeats 3200000 in
theorem first_91 (s : ByteArray) (n : Nat) (t : List UInt8) (hp : Pos s n (91 :: t)) (hs : s.size ≤ 1000) (w : World) :
  Calls Tryz.prog 94 #[.string s, .int .i64 (n : Int)] w fun e w' => FirstPost w w' e s (fst (91 :: t)) := by
 have hlt := hp.lt
 have hat := hp.at hlt
 have HP := Lib.hid hp
 clear hp
 rw [fst_91]
 obtain ⟨r0, hr0⟩ := setR_some (t.length + 2) (setStart t) [] (by have := setStart_len t; omega)
 rw [hr0]
 have HR0 := Lib.hid hr0
 have HPN := Lib.hid HP.out.next
 clear hr0 HP
 have n42 : (((91 : UInt8).toNat : Int) == 42) = false := rfl
 have n63 : (((91 : UInt8).toNat : Int) == 63) = false := rfl
 have n92 : (((91 : UInt8).toNat : Int) == 92) = false := rfl
 have q91 : (((91 : UInt8).toNat : Int) == 91) = true := rfl
 obtain ⟨i69, hi69, hzz⟩ := Option.map_eq_some_iff.1 info69
 simp only [Prod.mk.injEq] at hzz
 obtain ⟨hz69, hs69, hb69⟩ := hzz
 have INF := Lib.hid (And.intro hi69 (And.intro hz69 (And.intro hs69 hb69)))
 clear hi69 hz69 hs69 hb69
 go_enter Tryz.func94, Tryz.ntmps94
 have HS0 := Lib.hid (FS.start w false)
 go_upto_region 15 with (fail)
 have hS := HS0.out
 clear HS0
 generalize (w.alloc (.cells #[.int .i64 0, .slice none 0 0, .bool false] 137)).alloc (.cells #[.int .i64 0, .slice none 0 0, .bool false] 137) = W0 at *
 obtain ⟨R, hR⟩ : ∃ R, w.heap.size = R := ⟨_, rfl⟩
 rw [hR] at hS ⊢
 have HBe := Lib.hid hR
 clear hR n42 n63 n92 q91 hat
 go_cut [73] (fun v73 wc => v73 = .bool (setNot t) ∧ W0 = wc)
 case first =>
  rcases t with _ | ⟨a, t2⟩
  ·have hl := HPN.out.len
   have hnx : ¬ (n : Int) + 1 < (s.size : Int) := by simp at hl; omega
   clear hl
   go_wp2
   go_meet
   case rel => exact ⟨rfl, rfl⟩
  ·have hlt2 := HPN.out.lt
   have hat2 := HPN.out.at hlt2
   have e : ((a.toNat : Int) == 33) = (a == 33) := u8_eq a 33 (by omega)
   go_wp2
   go_meet
   case rel => exact ⟨by simp [setNot], rfl⟩
 case rest =>
  obtain ⟨rfl, rfl⟩ := hcut
  obtain ⟨nb, hnb⟩ : ∃ b, setNot t = b := ⟨_, rfl⟩
  rw [hnb]
  have HNB := Lib.hid hnb
  clear hnb
  go_upto_if 73 with (fail)
  go_cut [1] (fun v1 wc => ∃ n1 : Nat, v1 = .int .i64 (n1 : Int) ∧ Pos s n1 (setStart t) ∧ FS w wc R (R + 2) [] nb (.slice none 0 0))
  case first =>
   cases nb with
   | false =>
    go_wp2
    go_meet
    case rel =>
     refine ⟨n + 1, rfl, ?_, hS⟩
     have e : setStart t = t := if_neg (fun h => by have := HNB.out; simp [setNot, h] at this)
     rw [e]
     exact HPN.out
   | true =>
    obtain ⟨t2, rfl⟩ : ∃ t2, t = 33 :: t2 := by
     have := HNB.out
     cases t with
     | nil => simp [setNot] at this
     | cons a t2 => simp [setNot] at this; exact ⟨t2, by rw [this]⟩
    have HP2 := Lib.hid HPN.out.next
    have hlt2 := HPN.out.lt
    have hfx := hS.fx 2
    have hc2 := hS.c2
    have HS2 := Lib.hid hS.not
    go_wp2
    go_meet
    case rel => exact ⟨n + 1 + 1, by go_num, HP2.out, HS2.out⟩
  case rest =>
   clear hS
   obtain ⟨n1, rfl, hp1, hS⟩ := hcut
   have hl1 : (setStart t).length ≤ 1000 := by have := hp1.len; omega
   generalize setStart t = l1 at *
   clear hlt
   go_wp2_with fail
   go_loopg [1] (t.length + 2) (fun gk v1 wr => ∃ (n1 : Nat) (l : List UInt8) (ps : List (UInt8 × UInt8)) (v : Value), v1 = .int .i64 (n1 : Int) ∧ Pos s n1 l ∧ FS w wr R (R + 2) ps nb v ∧ Aside0 (setR gk l ps = some r0) ∧ ps.length + l.length ≤ 1000)
   case atStart => exact ⟨n1, l1, [], _, rfl, hp1, hS, ⟨HR0.out⟩, by simpa using hl1⟩
   case round =>
    clear hS hp1 hl1 HR0
    obtain ⟨n1, l, ps, v, rfl, hp, hS, hR, hlen⟩ := hrel
    cases gk with
    | zero => exact absurd hR.out (by simp [setR])
    | succ k =>
     obtain ⟨A, cap, rfl⟩ := own_slice hS.own
     have hc1 := hS.c1
     go_upto_region 18 with (fail)
     go_cut [92] (fun v92 wc => v92 = .bool (goB ps l) ∧ wr = wc)
     case first =>
      rcases ps with _ | ⟨p, ps2⟩
      ·go_wp2
       go_meet
       case rel => exact ⟨rfl, rfl⟩
      ·have hne : (((p :: ps2).length : Int) == 0) = false := beq_eq_false_iff_ne.2 (by simp; omega)
       generalize (p :: ps2).length = pl at *
       rcases l with _ | ⟨a, l2⟩
       ·have hl := hp.len
        have hnx : ¬ (n1 : Int) < (s.size : Int) := by simp at hl; omega
        clear hl
        go_wp2
        go_meet
        case rel => exact ⟨rfl, rfl⟩
       ·have hlt2 := hp.lt
        have hat2 := hp.at hlt2
        have e : ((a.toNat : Int) != 93) = (a != 93) := congrArg not (u8_eq a 93 (by omega))
        go_wp2
        go_meet
        case rel => exact ⟨rfl, rfl⟩
     case rest =>
      obtain ⟨rfl, rfl⟩ := hcut
      cases hg : goB ps l with
      | false =>
       obtain ⟨pl, hpl⟩ : ∃ pl, ps = pl := ⟨_, rfl⟩
       have hne : ps ≠ [] := fun e => by rw [e] at hg; simp [goB] at hg
       rcases l with _ | ⟨a, l2⟩
       ·have hrn : r0 = none := by have := hR.out; rw [setR_nil hne] at this; simpa using this.symm
        subst hrn
        have hl := hp.len
        have hge : (s.size : Int) ≤ (n1 : Int) := by simp at hl; omega
        have hr0 := hS.r0
        have hr1 := hS.r1
        have hr2 := hS.r2
        have hf0 := hS.fr 0
        have hf1 := hS.fr 1
        have hf2 := hS.fr 2
        clear hl hR hg hne
        go_wp2
        (try simp only [Exit.inBlock, Exit.then])
        refine bodyPost_ret (v := .tuple #[.agg #[.int .i64 0, .slice none 0 0, .bool false], .int .i64 (-1)]) (by rw [results_cell_tmp rfl]; go_simp) rfl ⟨rfl, ?_⟩
        (repeat' (first | exact FS.bel hS | refine Below.drew ?_ | refine Below.setCell ?_ (by have := FS.hR hS; simp; omega) _))
       ·obtain rfl : a = 93 := by
         have : ps.isEmpty = false := by cases ps with | nil => exact absurd rfl hne | cons x y => rfl
         rw [goB, this] at hg
         simpa using hg
        have hrn : r0 = some (93 :: l2, ps) := by have := hR.out; rw [setR_end hne (by simp) rfl] at this; simpa using this.symm
        subst hrn
        have hlt2 := hp.lt
        have HP2 := Lib.hid hp.next
        have hr0 := hS.r0
        have hr1 := hS.r1
        have hr2 := hS.r2
        have hf0 := hS.fr 0
        have hf1 := hS.fr 1
        have hf2 := hS.fr 2
        have hx0 := hS.c0
        have hx2 := hS.c2
        clear hR hg hne
        go_wp2
        (try simp only [Exit.inBlock, Exit.then])
        refine bodyPost_ret (v := .tuple #[.agg #[.int .i64 0, .slice A ps.length cap, .bool nb], .int .i64 ((n1 : Int) + 1)]) (by rw [results_cell_tmp rfl]; go_simp) rfl ⟨.slice A ps.length cap, n1 + 1, ?_, HP2.out, ?_, ?_⟩
        ·rw [← HNB.out]; rfl
        ·exact own_weaken (own_set3 hS.own hS.apart.1 _ _ _) (by have := hS.hR; omega)
        ·(repeat' (first | exact FS.bel hS | refine Below.drew ?_ | refine Below.setCell ?_ (by have := FS.hR hS; simp; omega) _))
      | true =>
       have hgo : ¬ (ps ≠ [] ∧ (l = [] ∨ l.head? = some 93)) := by
        rintro ⟨h1, h2⟩
        cases ps with
        | nil => exact h1 rfl
        | cons p ps2 =>
         rcases h2 with rfl | h2
         ·simp [goB] at hg
         ·cases l with
          | nil => simp at h2
          | cons a l2 => simp at h2; simp [goB, h2] at hg
       have HGO := Lib.hid hgo
       clear hgo hg
       go_wp2_with fail
       refine (member_ref s n1 l hp hs _).mono ?_
       rintro e w1 ⟨mv, rfl, hb1, hbad, hok⟩
       have hS1 := hS.below hb1
       clear hS hb1 hc1
       cases hmb : memB l with
       | true =>
        have hmv := hbad hmb
        subst hmv
        have hrn : r0 = none := by have := hR.out; rw [setR_bad HGO.out (partBad_of (by unfold partB; split <;> simp [hmb]))] at this; simpa using this.symm
        subst hrn
        clear hbad hok hR
        have hr0 := hS1.r0
        have hr1 := hS1.r1
        have hr2 := hS1.r2
        have hf0 := hS1.fr 0
        have hf1 := hS1.fr 1
        have hf2 := hS1.fr 2
        go_wp2
        (try simp only [Exit.inBlock, Exit.then])
        refine bodyPost_ret (v := .tuple #[.agg #[.int .i64 0, .slice none 0 0, .bool false], .int .i64 (-1)]) (by rw [results_cell_tmp rfl]; go_simp) rfl ⟨rfl, ?_⟩
        (repeat' (first | exact FS.bel hS1 | refine Below.drew ?_ | refine Below.setCell ?_ (by have := FS.hR hS1; simp; omega) _))
       | false =>
        obtain ⟨n2, rfl, hp2⟩ := hok hmb
        clear hbad hok
        have ev : ((if false = true then 0 else (memC l).toNat : Nat) : Int) = ((memC l).toNat : Int) := rfl
        rw [ev]
        clear ev
        go_upto_region 23 with (fail)
        go_cut [112] (fun v112 wc => v112 = .bool (partTwo l) ∧ w1 = wc)
        case first =>
         obtain ⟨m, hm⟩ : ∃ m, memR l = m := ⟨_, rfl⟩
         have epT : partTwo l = (m.head? == some 45) := by unfold partTwo; rw [hm]
         rw [hm] at hp2
         have EPT := Lib.hid epT
         clear epT hm
         rcases m with _ | ⟨a, l2⟩
         ·have hl := hp2.len
          have hnx : ¬ (n2 : Int) < (s.size : Int) := by simp at hl; omega
          clear hl
          go_wp2
          go_meet
          case rel => exact ⟨by rw [EPT.out]; rfl, rfl⟩
         ·have hlt2 := hp2.lt
          have hat2 := hp2.at hlt2
          have e : ((a.toNat : Int) == 45) = (a == 45) := u8_eq a 45 (by omega)
          go_wp2
          go_meet
          case rel => exact ⟨by rw [EPT.out]; simp, rfl⟩
        case rest =>
         obtain ⟨rfl, rfl⟩ := hcut
         go_upto_if 112 with (fail)
         go_cut [8, 9] (fun v8 v9 wc => ∃ n3 : Nat, v8 = .int .i64 (n3 : Int) ∧ v9 = .int .u8 ((partHi l).toNat : Int) ∧ Pos s n3 (partR l) ∧ FS w wc R (R + 2) ps nb (.slice A ps.length cap) ∧ partB l = false)
         case first =>
          cases hpt : partTwo l with
          | false =>
           go_wp2
           go_meet
           case rel => exact ⟨n2, rfl, by simp [partHi, hpt], by simpa [partR, hpt] using hp2, hS1, by simp [partB, hpt, hmb]⟩
          | true =>
           have hpm : Pos s (n2 + 1) (memR l).tail := by
            have h45 : (memR l).head? = some 45 := by simpa [partTwo] using hpt
            cases hm : memR l with
            | nil => rw [hm] at h45; simp at h45
            | cons a l2 => rw [hm] at hp2; exact hp2.next
           have hm := member_ref s (n2 + 1) _ hpm hs
           rw [show ((n2 + 1 : Nat) : Int) = (n2 : Int) + 1 from by omega] at hm
           have HM := Lib.hid hm
           have hlt2 : n2 + 1 ≤ s.size := hpm.le
           clear hm
           go_wp2_with fail
           refine (HM.out _).mono ?_
           rintro e w2 ⟨mv, rfl, hb2, hbad, hok⟩
           have hS2 := hS1.below hb2
           clear hb2 hS1 hp2 HM hpm
           cases hmb2 : memB (memR l).tail with
           | true =>
            have hmv := hbad hmb2
            subst hmv
            have hrn : r0 = none := by have := hR.out; rw [setR_bad HGO.out (partBad_of (by unfold partB; rw [if_pos hpt, hmb2, Bool.or_true]))] at this; simpa using this.symm
            subst hrn
            clear hbad hok hR
            have hr0 := hS2.r0
            have hr1 := hS2.r1
            have hr2 := hS2.r2
            have hf0 := hS2.fr 0
            have hf1 := hS2.fr 1
            have hf2 := hS2.fr 2
            go_wp2
            (try simp only [Exit.inBlock, Exit.then])
            refine bodyPost_ret (v := .tuple #[.agg #[.int .i64 0, .slice none 0 0, .bool false], .int .i64 (-1)]) (by rw [results_cell_tmp rfl]; go_simp) rfl ⟨rfl, ?_⟩
            (repeat' (first | exact FS.bel hS2 | refine Below.drew ?_ | refine Below.setCell ?_ (by have := FS.hR hS2; simp; omega) _))
           | false =>
            obtain ⟨n3, rfl, hp3⟩ := hok hmb2
            clear hbad hok
            go_wp2
            go_meet
            case rel => exact ⟨n3, rfl, by simp [partHi, hpt], by simpa [partR, hpt] using hp3, hS2, by simp [partB, hpt, hmb, hmb2]⟩
         case rest =>
          clear hS1 hp2
          obtain ⟨n3, rfl, rfl, hp3, hS, hpb⟩ := hcut
          by_cases hlo : (partHi l).toNat < (partLo l).toNat
          ·have hrn : r0 = none := by have := hR.out; rw [setR_bad HGO.out (by unfold partBad; rw [decide_eq_true hlo, Bool.or_true])] at this; simpa using this.symm
           subst hrn
           have hd : decide ((partHi l).toNat < (memC l).toNat) = true := decide_eq_true hlo
           clear hR
           have hr0 := hS.r0
           have hr1 := hS.r1
           have hr2 := hS.r2
           have hf0 := hS.fr 0
           have hf1 := hS.fr 1
           have hf2 := hS.fr 2
           go_wp2
           (try simp only [Exit.inBlock, Exit.then])
           refine bodyPost_ret (v := .tuple #[.agg #[.int .i64 0, .slice none 0 0, .bool false], .int .i64 (-1)]) (by rw [results_cell_tmp rfl]; go_simp) rfl ⟨rfl, ?_⟩
           (repeat' (first | exact FS.bel hS | refine Below.drew ?_ | refine Below.setCell ?_ (by have := FS.hR hS; simp; omega) _))
          ·have hR2 : setR k (partR l) (ps ++ [(partLo l, partHi l)]) = some r0 := by
            have := hR.out
            rwa [setR_go HGO.out (by unfold partBad; rw [hpb, decide_eq_false hlo]; decide)] at this
           have hd : decide ((partHi l).toNat < (memC l).toNat) = false := decide_eq_false hlo
           have hll : (partR l).length + 1 ≤ l.length := partR_lt l (fun e => by rw [e] at hpb; exact absurd hpb (by decide))
           have HR2 := Lib.hid hR2
           obtain ⟨hi69, hz69, hs69, hb69⟩ := INF.out
           have hc1 := hS.c1
           clear hR hR2 hlo
           go_wp2_with (at_builtin; refine wpList_append_lies _ rfl (.tmp 128) (.tmp 132) 135 rfl (R + 2) 163 i69 _ 2 2 Tryz.underlying135 hi69 hz69 hs69 hb69 rfl (by omega) (.slice A ps.length cap) ps.length (rowB ps) rfl (fs_o hS) ⟨wc.heap.size, 0, none⟩ 1 1 (bcs (partLo l, partHi l)) rfl rfl (fs_n wc _) (bcs_one _) (by omega) (by unfold maxLen; omega) (by omega) (fs_b hS) _ rfl ?_; intro g2 cap2 w2 hown2 hgr2 _ _; have c1 := FS.c1' (fs_blk hS hgr2).2; have f1 := FS.f1' (fs_blk hS hgr2).2)
           go_roundg k
           case measure => omega
           case rel => exact ⟨n3, partR l, _, _, rfl, hp3, hS.push _ hown2 hgr2, ⟨HR2.out⟩, by simp; omega⟩
theorem first_ref (s : ByteArray) (n : Nat) (c : UInt8) (t : List UInt8) (hp : Pos s n (c :: t)) (hs : s.size ≤ 1000) (w : World) :
  Calls Tryz.prog 94 #[.string s, .int .i64 (n : Int)] w fun e w' => FirstPost w w' e s (fst (c :: t)) := by
 by_cases h : c = 91
 ·subst h; exact first_91 s n t hp hs w
 ·exact first_o s n c t h hp hs w
end Go.Proofs.YtejdmofljifkbaaGreatDoor.Gl
namespace Go.Proofs.YtejdmofljifkbaaGreatDoor.Gl
open Go.RowKit Go.Proofs.YtejdmofljifkbaaGreatDoorW.PrintWords Go.Proofs.YtejdmofljifkbaaGreatDoorW.PrintLast Go.Proofs.YtejdmofljifkbaaGreatDoorW.PrintMore
set_option linter.unusedSimpArgs false
set_option linter.unusedVariables false
def pcL : Nat → List UInt8 → List RP → Option (Option (List RP))
 | 0, _, _ => none
 | k + 1, l, xs => match l with
  | [] => some (some xs)
  | c :: t => match fst (c :: t) with
   | none => some none
   | some (x, rest) => pcL k rest (xs ++ [x])
theorem setR_len : ∀ (k : Nat) (l : List UInt8) (ps : List (UInt8 × UInt8)) (l2 : List UInt8) (p2 : List (UInt8 × UInt8)), setR k l ps = some (some (l2, p2)) → l2.length ≤ l.length
 | 0, _, _, _, _, h => by simp [setR] at h
 | k + 1, l, ps, l2, p2, h => by
  simp only [setR] at h
  split at h
  ·split at h
   ·simp at h
   ·simp at h; rw [h.1]; exact Nat.le_refl _
  ·split at h
   ·simp at h
   ·exact Nat.le_trans (setR_len k _ _ l2 p2 h) (partR_len l)
theorem fst_len (c : UInt8) (t : List UInt8) (x : RP) (rest : List UInt8) (h : fst (c :: t) = some (x, rest)) : rest.length ≤ t.length := by
 by_cases e42 : c = 42
 ·subst e42
  rw [fst_42] at h
  unfold fst42 at h
  split at h
  ·simp at h; rw [← h.2]; simp
  ·simp at h; rw [← h.2]; exact Nat.le_refl _
 by_cases e63 : c = 63
 ·subst e63; rw [fst_63] at h; simp at h; rw [← h.2]; exact Nat.le_refl _
 by_cases e92 : c = 92
 ·subst e92
  rw [fst_92] at h
  cases t with
  | nil => simp [fst92] at h
  | cons d t => simp [fst92] at h; rw [← h.2]; simp
 by_cases e91 : c = 91
 ·subst e91
  rw [fst_91] at h
  cases hr : setR (t.length + 2) (setStart t) [] with
  | none => rw [hr] at h; simp [fst91] at h
  | some o => cases o with
   | none => rw [hr] at h; simp [fst91] at h
   | some y =>
    obtain ⟨l2, ps⟩ := y
    rw [hr] at h
    simp [fst91] at h
    have h1 := setR_len _ _ _ _ _ hr
    have h2 := setStart_len t
    rw [← h.2]
    simp
    omega
 ·rw [fst_o t e42 e63 e92 e91] at h; simp at h; rw [← h.2]; exact Nat.le_refl _
theorem pcL_some : ∀ (k : Nat) (l : List UInt8) (xs : List RP), l.length < k → ∃ r, pcL k l xs = some r
 | 0, l, xs, h => by omega
 | k + 1, [], xs, h => ⟨_, rfl⟩
 | k + 1, c :: t, xs, h => by
  simp only [pcL]
  cases hf : fst (c :: t) with
  | none => exact ⟨_, rfl⟩
  | some y =>
   obtain ⟨x, rest⟩ := y
   have := fst_len c t x rest hf
   simp at h
   exact pcL_some k rest _ (by omega)
abbrev QP := Int × Value × Bool
def qcs (x : QP) : List Value := [.int .i64 x.1, x.2.1, .bool x.2.2]
def rowQ (xs : List QP) : List Value := (xs.map qcs).flatten
theorem rowQ_snoc (xs : List QP) (x : QP) : rowQ (xs ++ [x]) = rowQ xs ++ qcs x := by simp [rowQ]
theorem info52 : (Tryz.prog.info? 137).map (fun i => (i.zero, i.size, i.bytes)) = some (some (.agg #[.int .i64 0, .slice none 0 0, .bool false]), 3, 40) := by kernel_rfl
def PiecesPost (w w' : World) (e : Ending) : Option (List RP) → Prop
 | none => e = .returned (.tuple #[.slice none 0 0, .bool false]) ∧ Below w.heap.size w w'
 | some xs => ∃ v ys, e = .returned (.tuple #[v, .bool true]) ∧ w'.ownsRow w.heap.size 137 3 v ys.length (rowQ ys) ∧ ys.map (·.1) = xs.map (·.1) ∧ Below w.heap.size w w' ∧ ys.length ≤ 1000
theorem qs_n (W1 : World) (x : QP) : ∀ j u, (qcs x)[j]? = some u → (W1.alloc (.cells #[.int .i64 x.1, x.2.1, .bool x.2.2] 137)).cell? ((⟨W1.heap.size, 0, none⟩ : Addr).add j) = some u :=
 fun j u hu => World.news_of_block (cs := (qcs x).toArray) (t := 137) (fr := (0, 0)) (heap_alloc_new W1 _) j u hu
theorem qcs_one (x : QP) (h : x.2.1.oneCell' = true) : ∀ u ∈ qcs x, u.oneCell' = true := by
 intro u hu
 simp [qcs] at hu
 rcases hu with rfl | rfl | rfl
 ·rfl
 ·exact h
 ·rfl
set_option maxRecDepth 100000 in
set_option maxHeartbeats 3200000 in
theorem pieces_ref (s : ByteArray) (r0 : Option (List RP)) (hr : pcL (s.size + 1) s.data.toList [] = some r0) (hs : s.size ≤ 1000) (w : World) :
  Calls Tryz.prog 47 #[.string s] w fun e w' => PiecesPost w w' e r0 := by
 have HR := Lib.hid hr
 clear hr
 obtain ⟨i52, hi52, hzz⟩ := Option.map_eq_some_iff.1 info52
 simp only [Prod.mk.injEq] at hzz
 obtain ⟨hz52, hs52, hb52⟩ := hzz
 have INF := Lib.hid (And.intro hi52 (And.intro hz52 (And.intro hs52 hb52)))
 clear hi52 hz52 hs52 hb52
 go_enter Tryz.func47, Tryz.ntmps47
 go_wp2_with fail
 go_loopg [5, 4] (s.size + 1) (fun gk v5 v4 wr => ∃ (n : Nat) (l : List UInt8) (xs : List RP) (ys : List QP), v5 = .int .i64 (n : Int) ∧ Pos s n l ∧ wr.ownsRow w.heap.size 137 3 v4 ys.length (rowQ ys) ∧ ys.map (·.1) = xs.map (·.1) ∧ Below w.heap.size w wr ∧ Aside0 (pcL gk l xs = some r0) ∧ ys.length + l.length ≤ 1000)
 case atStart => exact ⟨0, _, [], [], rfl, Pos.zero s, own_nil _ _ _ _, rfl, Below.refl _ _, ⟨HR.out⟩, by rw [data_length]; simpa using hs⟩
 case round =>
  clear HR
  obtain ⟨n, l, xs, ys, rfl, hp, hown, hxy, hbel, hR, hlen⟩ := hrel
  cases gk with
  | zero => exact absurd hR.out (by simp [pcL])
  | succ k =>
   obtain ⟨A, cap, rfl⟩ := own_slice hown
   cases l with
   | nil =>
    have hrn : r0 = some xs := by have := hR.out; simp only [pcL] at this; simpa using this.symm
    subst hrn
    have hl := hp.len
    have hnx : ¬ (n : Int) < (s.size : Int) := by simp at hl; omega
    clear hl hR
    go_wp2
    go_ret2
    exact ⟨_, ys, rfl, hown, hxy, hbel, by simpa using hlen⟩
   | cons c t =>
    have hlt := hp.lt
    have hB : w.heap.size ≤ wr.heap.size := hbel.size
    go_wp2_with fail
    refine (first_ref s n c t hp hs _).mono ?_
    intro e w1 hpost
    cases hf : fst (c :: t) with
    | none =>
     rw [hf] at hpost
     obtain ⟨rfl, hb1⟩ := hpost
     have hrn : r0 = none := by have := hR.out; simp only [pcL] at this; rw [hf] at this; simpa using this.symm
     subst hrn
     have hbel1 := hbel.trans (hb1.mono hB)
     clear hR
     go_wp2
     go_ret2
     exact ⟨rfl, hbel1.alloc (by have := hb1.size; omega) _⟩
    | some y =>
     obtain ⟨x, rest⟩ := y
     rw [hf] at hpost
     obtain ⟨pv, n2, rfl, hp2, hpo, hb1⟩ := hpost
     obtain ⟨pA, pc, rfl⟩ := own_slice hpo
     have hR2 : pcL k rest (xs ++ [x]) = some r0 := by have := hR.out; simp only [pcL] at this; rwa [hf] at this
     have hlr := fst_len c t x rest hf
     have hlen2 : ys.length + 1 + rest.length ≤ 1000 := by simp at hlen; omega
     have hown1 := pw_own_below hown hb1
     have hbel1 := hbel.trans (hb1.mono hB)
     have hB1 : w.heap.size ≤ w1.heap.size := hbel1.size
     obtain ⟨W1, hW1⟩ : ∃ W1, W1 = w1.alloc (.cells #[.int .i64 x.1, .slice pA x.2.1.length pc, .bool x.2.2] 137) := ⟨_, rfl⟩
     have hownW : ∀ o, (W1.alloc o).ownsRow w.heap.size 137 3 (.slice A ys.length cap) ys.length (rowQ ys) := fun o => by rw [hW1]; exact (hown1.alloc _).alloc o
     have hbW : ∀ o, w.heap.size ≤ (W1.alloc o).heap.size := fun o => by rw [hW1]; simp; omega
     have hbelW : ∀ o, Below w.heap.size w (W1.alloc o) := fun o => by rw [hW1]; exact (hbel1.alloc (by omega) _).alloc (by simp; omega) _
     have hqn := qs_n W1 ((x.1, .slice pA x.2.1.length pc, x.2.2) : QP)
     have hxy2 : (ys ++ [((x.1, .slice pA x.2.1.length pc, x.2.2) : QP)]).map (·.1) = (xs ++ [x]).map (·.1) := by rw [List.map_append, List.map_append, hxy]; rfl
     have HP := Lib.hid (And.intro hR2 (And.intro hp2 (And.intro hlen2 hxy2)))
     have HQ := Lib.hid (And.intro hownW (And.intro hbW (And.intro hbelW hqn)))
     have HW := Lib.hid hW1
     obtain ⟨hi52, hz52, hs52, hb52⟩ := INF.out
     clear hR hR2 hf hp2 hpo hown hown1 hbel hbel1 hownW hbW hbelW hqn hxy hxy2 hW1 hlen hlen2 hb1
     have hlA : (ys.length + 1) * 40 ≤ 140737488355328 := by have := HP.out.2.2.1; omega
     have hlM : ys.length + 1 ≤ maxLen := by have := HP.out.2.2.1; unfold maxLen; omega
     go_upto_region 7 with (fail)
     rw [← HW.out]
     obtain ⟨hc0, hc1, hc2⟩ : W1.cell? ⟨w1.heap.size, 0, none⟩ = some (.int .i64 x.1) ∧ W1.cell? ⟨w1.heap.size, 1, none⟩ = some (.slice pA x.2.1.length pc) ∧ W1.cell? ⟨w1.heap.size, 2, none⟩ = some (.bool x.2.2) := by
      have hn := heap_alloc_new w1 (.cells #[.int .i64 x.1, .slice pA x.2.1.length pc, .bool x.2.2] 137)
      rw [← HW.out] at hn
      exact ⟨cell_of_row W1 _ 0 _ 137 (0, 0) hn, cell_of_row W1 _ 1 _ 137 (0, 0) hn, cell_of_row W1 _ 2 _ 137 (0, 0) hn⟩
     go_wp2_with (at_builtin; refine wpList_append_lies _ rfl (.tmp 20) (.tmp 22) 90 rfl w.heap.size 137 i52 _ 3 40 Tryz.underlying90 hi52 hz52 hs52 hb52 rfl (by omega) (.slice A ys.length cap) ys.length (rowQ ys) rfl (HQ.out.1 _) ⟨W1.heap.size, 0, none⟩ 1 1 (qcs ((x.1, .slice pA x.2.1.length pc, x.2.2) : QP)) rfl rfl HQ.out.2.2.2 (qcs_one _ rfl) (by omega) hlM hlA (HQ.out.2.1 _) _ rfl ?_; intro g2 cap2 w2 hown2 hgr2 _ _)
     go_roundg k
     case measure => omega
     case rel =>
      refine ⟨n2, rest, xs ++ [x], ys ++ [((x.1, .slice pA x.2.1.length pc, x.2.2) : QP)], rfl, HP.out.2.1, ?_, HP.out.2.2.2, ?_, ⟨HP.out.1⟩, by have := HP.out.2.2.1; simp; omega⟩
      ·rw [rowQ_snoc, List.length_append, List.length_singleton]; exact hown2
      ·exact (HQ.out.2.2.1 _).grown hgr2 (HQ.out.2.1 _) (own_base (HQ.out.1 (.cells #[] 0)))
def starsQ (ks : List Int) : Nat := ks.countP (fun k => decide (0 < k))
def starsR : Option (List RP) → Nat
 | none => 0
 | some xs => starsQ (xs.map (·.1))
theorem rowQ_at : ∀ (ys : List QP) (i : Nat) (y : QP), ys[i]? = some y → (rowQ ys)[i * 3]? = some (.int .i64 y.1)
 | [], i, y, h => by simp at h
 | a :: ys, 0, y, h => by simp at h; subst h; rfl
 | a :: ys, i + 1, y, h => by
  have h1 : ys[i]? = some y := by simpa using h
  have e : rowQ (a :: ys) = qcs a ++ rowQ ys := by simp [rowQ]
  have hl : (qcs a).length = 3 := rfl
  rw [e, List.getElem?_append_right (by omega), hl, show (i + 1) * 3 - 3 = i * 3 from by omega]
  exact rowQ_at ys i y h1
set_option maxRecDepth 100000 in
set_option maxHeartbeats 3200000 in
theorem stars_ref (s : ByteArray) (r0 : Option (List RP)) (hr : pcL (s.size + 1) s.data.toList [] = some r0) (hs : s.size ≤ 1000) (w : World) :
  Calls Tryz.prog 90 #[.string s] w fun e w' => e = .returned (.int .i64 (starsR r0 : Nat)) ∧ Below w.heap.size w w' := by
 have hp := pieces_ref s r0 hr hs w
 have HP := Lib.hid hp
 clear hp hr
 go_enter Tryz.func90, Tryz.ntmps90
 go_wp2_with fail
 refine HP.out.mono ?_
 intro e w1 hpost
 clear HP
 cases r0 with
 | none =>
  obtain ⟨rfl, hb⟩ := hpost
  have HB := Lib.hid hb
  clear hb
  go_wp2_with fail
  go_loopg [6, 5] 0 (fun gk v6 v5 wr => v6 = .int .i64 0 ∧ v5 = .int .i64 0 ∧ w1 = wr ∧ gk = 0)
  case atStart => exact ⟨rfl, rfl, rfl, rfl⟩
  case round =>
   obtain ⟨rfl, rfl, rfl, rfl⟩ := hrel
   go_wp2
   go_ret
   exact ⟨rfl, HB.out⟩
 | some xs =>
  obtain ⟨v, ys, rfl, hown, hxy, hb, hy1⟩ := hpost
  obtain ⟨A, cap, rfl⟩ := own_slice hown
  have hrow : ∀ (i : Nat) (y : QP), ys[i]? = some y → ∃ g, A = some ⟨g, 0, none⟩ ∧ w1.cell? ⟨g, i * 3, none⟩ = some (.int .i64 y.1) := fun i y hy => by
   have hi := (List.getElem?_eq_some_iff.1 hy).1
   obtain ⟨g, cap2, e, _, _⟩ := hown.form (by omega)
   injection e with e1 e2 e3
   have hcell := hown.cells (g := g) (by rw [e1]; rfl) (i * 3) _ (rowQ_at ys i y hy)
   rw [add_plain] at hcell
   exact ⟨g, e1, hcell⟩
  have e9 : starsQ (ys.map (·.1)) = starsR (some xs) := congrArg starsQ hxy
  have HROW := Lib.hid (And.intro hrow e9)
  clear hrow e9 hown hxy
  go_wp2_with fail
  go_loopg [6, 5] ys.length (fun gk v6 v5 wr => ∃ i : Nat, i + gk = ys.length ∧ v6 = .int .i64 (i : Int) ∧ v5 = .int .i64 ((starsQ ((ys.map (·.1)).take i) : Nat) : Int) ∧ w1 = wr)
  case atStart => exact ⟨0, by omega, rfl, rfl, rfl⟩
  case round =>
   obtain ⟨i, hi, rfl, rfl, rfl⟩ := hrel
   have hsl : starsQ ((ys.map (·.1)).take i) ≤ ys.length := by
    unfold starsQ
    exact Nat.le_trans List.countP_le_length (by simp; omega)
   obtain ⟨sn, hsn⟩ : ∃ sn, starsQ ((ys.map (·.1)).take i) = sn := ⟨_, rfl⟩
   rw [hsn] at hsl ⊢
   have HSN := Lib.hid hsn
   clear hsn
   cases gk with
   | zero =>
    obtain rfl : i = ys.length := by omega
    go_wp2
    go_ret
    have e9 : sn = starsR (some xs) := by rw [← HSN.out, List.take_of_length_le (by simp)]; exact HROW.out.2
    exact ⟨by rw [← e9]; rfl, hb⟩
   | succ k =>
    have hi2 : i < ys.length := by omega
    obtain ⟨y, hy⟩ : ∃ y, ys[i]? = some y := ⟨ys[i], List.getElem?_eq_getElem hi2⟩
    obtain ⟨g, rfl, hcell⟩ := HROW.out.1 i y hy
    have e5 : (ys.map (·.1)).take (i + 1) = (ys.map (·.1)).take i ++ [y.1] := by
     rw [List.take_add_one, List.getElem?_map, hy]; rfl
    have e6 : starsQ ((ys.map (·.1)).take (i + 1)) = sn + (if 0 < y.1 then 1 else 0) := by
     rw [e5, ← HSN.out]
     simp [starsQ, List.countP_append, List.countP_cons]
    have E6 := Lib.hid e6
    clear e5 e6 hy
    by_cases hk : 0 < y.1
    ·have hd : decide (0 < y.1) = true := decide_eq_true hk
     have e7 : starsQ ((ys.map (·.1)).take (i + 1)) = sn + 1 := by rw [E6.out, if_pos hk]
     have E7 := Lib.hid e7
     clear e7 E6 hk
     go_wp2
     go_roundg k
     case measure => omega
     case rel => exact ⟨i + 1, by omega, by go_num, by rw [E7.out]; go_num, rfl⟩
    ·have hd : decide (0 < y.1) = false := decide_eq_false hk
     have e7 : starsQ ((ys.map (·.1)).take (i + 1)) = sn := by rw [E6.out, if_neg hk]; rfl
     have E7 := Lib.hid e7
     clear e7 E6 hk
     go_wp2
     go_roundg k
     case measure => omega
     case rel => exact ⟨i + 1, by omega, by go_num, by rw [E7.out], rfl⟩
end Go.Proofs.YtejdmofljifkbaaGreatDoor.Gl
namespace Go.Proofs.YtejdmofljifkbaaGreatDoor.Gl
open Go.RowKit Go.Proofs.YtejdmofljifkbaaGreatDoorW.PrintWords Go.Proofs.YtejdmofljifkbaaGreatDoorW.PrintLast Go.Proofs.YtejdmofljifkbaaGreatDoorW.PrintMore
set_option linter.unusedSimpArgs false
set_option linter.unusedVariables false
def inR (ps : List (UInt8 × UInt8)) (c : UInt8) : Bool := ps.any fun p => decide (p.1.toNat ≤ c.toNat) && decide (c.toNat ≤ p.2.toNat)
def hasR (ps : List (UInt8 × UInt8)) (not : Bool) (c : UInt8) (pl : Bool) : Bool := (inR ps c != not) && (c != 47 || pl)
theorem rowB_at : ∀ (ps : List (UInt8 × UInt8)) (i : Nat) (p : UInt8 × UInt8), ps[i]? = some p → (rowB ps)[i * 2]? = some (.int .u8 (p.1.toNat : Int)) ∧ (rowB ps)[i * 2 + 1]? = some (.int .u8 (p.2.toNat : Int))
 | [], i, p, h => by simp at h
 | a :: ps, 0, p, h => by simp at h; subst h; exact ⟨rfl, rfl⟩
 | a :: ps, i + 1, p, h => by
  have h1 : ps[i]? = some p := by simpa using h
  have e : rowB (a :: ps) = bcs a ++ rowB ps := by simp [rowB]
  have hl : (bcs a).length = 2 := rfl
  obtain ⟨r1, r2⟩ := rowB_at ps i p h1
  rw [e]
  constructor
  ·rw [List.getElem?_append_right (by omega), hl, show (i + 1) * 2 - 2 = i * 2 from by omega]; exact r1
  ·rw [List.getElem?_append_right (by omega), hl, show (i + 1) * 2 + 1 - 2 = i * 2 + 1 from by omega]; exact r2
theorem inR_snoc (ps : List (UInt8 × UInt8)) (i : Nat) (p : UInt8 × UInt8) (h : ps[i]? = some p) (c : UInt8) : inR (ps.take (i + 1)) c = (inR (ps.take i) c || (decide (p.1.toNat ≤ c.toNat) && decide (c.toNat ≤ p.2.toNat))) := by
 rw [List.take_add_one, h]
 simp [inR, List.any_append]
set_option maxRecDepth 100000 in
set_option maxHeartbeats 3200000 in
theorem has_ref (k : Int) (v : Value) (B : Nat) (ps : List (UInt8 × UInt8)) (nb : Bool) (c : UInt8) (pl : Bool) (w : World) (h : w.ownsRow B 163 2 v ps.length (rowB ps)) (hl : ps.length ≤ 1000) :
  Calls Tryz.prog 99 #[.agg #[.int .i64 k, v, .bool nb], .int .u8 (c.toNat : Int), .bool pl] w fun e w' => e = .returned (.bool (hasR ps nb c pl)) ∧ Below w.heap.size w w' := by
 obtain ⟨A, cap, rfl⟩ := own_slice h
 have hX := heap_alloc_new w (.cells #[.int .i64 k, .slice A ps.length cap, .bool nb] 137)
 have hb0 : Below w.heap.size w (w.alloc (.cells #[.int .i64 k, .slice A ps.length cap, .bool nb] 137)) := (Below.refl _ _).alloc (Nat.le_refl _) _
 have h1 := pw_own_below h hb0
 have hrow : ∀ (i : Nat) (p : UInt8 × UInt8), ps[i]? = some p → ∃ g, A = some ⟨g, 0, none⟩ ∧ (w.alloc (.cells #[.int .i64 k, .slice A ps.length cap, .bool nb] 137)).cell? ⟨g, i * 2, none⟩ = some (.int .u8 (p.1.toNat : Int)) ∧ (w.alloc (.cells #[.int .i64 k, .slice A ps.length cap, .bool nb] 137)).cell? ⟨g, i * 2 + 1, none⟩ = some (.int .u8 (p.2.toNat : Int)) := fun i y hy => by
  have hi := (List.getElem?_eq_some_iff.1 hy).1
  obtain ⟨g, cap2, e, _, _⟩ := h.form (by omega)
  injection e with e1 e2 e3
  have hc1 := h1.cells (g := g) (by rw [e1]; rfl) (i * 2) _ (rowB_at ps i y hy).1
  have hc2 := h1.cells (g := g) (by rw [e1]; rfl) (i * 2 + 1) _ (rowB_at ps i y hy).2
  rw [add_plain] at hc1 hc2
  exact ⟨g, e1, hc1, hc2⟩
 have hc1 := cell_of_row _ _ 1 _ 137 (0, 0) hX
 have hc2 := cell_of_row _ _ 2 _ 137 (0, 0) hX
 have HH := Lib.hid (And.intro hrow (And.intro hb0 (And.intro hc1 hc2)))
 clear hrow hb0 hc1 hc2 hX h1 h
 go_enter Tryz.func99, Tryz.ntmps99
 go_wp2_with fail
 obtain ⟨hrow, hb0, hc1, hc2⟩ := HH.out
 clear HH
 have hc1 : (w.alloc (.cells #[.int .i64 k, .slice A ps.length cap, .bool nb] 137)).cell? ⟨w.heap.size, 1, none⟩ = some (.slice A ps.length cap) := hc1
 have hc2 : (w.alloc (.cells #[.int .i64 k, .slice A ps.length cap, .bool nb] 137)).cell? ⟨w.heap.size, 2, none⟩ = some (.bool nb) := hc2
 generalize w.alloc (.cells #[.int .i64 k, .slice A ps.length cap, .bool nb] 137) = W1 at *
 have HB := Lib.hid hb0
 have HROW := Lib.hid hrow
 clear hb0 hrow
 go_loopg [8, 7] ps.length (fun gk v8 v7 wr => ∃ i : Nat, i + gk = ps.length ∧ v8 = .int .i64 (i : Int) ∧ v7 = .bool (inR (ps.take i) c) ∧ W1 = wr)
 case atStart => exact ⟨0, by omega, rfl, rfl, rfl⟩
 case round =>
  obtain ⟨i, hi, rfl, rfl, rfl⟩ := hrel
  obtain ⟨sn, hsn⟩ : ∃ sn, inR (ps.take i) c = sn := ⟨_, rfl⟩
  rw [hsn]
  have HSN := Lib.hid hsn
  clear hsn
  cases gk with
  | zero =>
   obtain rfl : i = ps.length := by omega
   have e47 : ((c.toNat : Int) != 47) = (c != 47) := congrArg not (u8_eq c 47 (by omega))
   have e9 : hasR ps nb c pl = ((sn != nb) && (c != 47 || pl)) := by unfold hasR; rw [← HSN.out, List.take_of_length_le (by simp)]
   have E9 := Lib.hid e9
   clear e9
   generalize (c != 47) = c47 at *
   cases sn <;> cases nb <;> cases c47 <;> (go_wp2; go_ret; exact ⟨by rw [E9.out]; rfl, HB.out⟩)
  | succ j =>
   have hi2 : i < ps.length := by omega
   obtain ⟨p, hy⟩ : ∃ p, ps[i]? = some p := ⟨ps[i], List.getElem?_eq_getElem hi2⟩
   obtain ⟨g, rfl, hcl, hch⟩ := HROW.out i p hy
   have e5 := inR_snoc ps i p hy c
   rw [HSN.out] at e5
   have E5 := Lib.hid e5
   clear e5 hy
   cases sn with
   | true =>
    go_wp2
    go_roundg j
    case measure => omega
    case rel => exact ⟨i + 1, by omega, by go_num, by rw [E5.out]; rfl, rfl⟩
   | false =>
    have e7 : inR (ps.take (i + 1)) c = (decide (p.1.toNat ≤ c.toNat) && decide (c.toNat ≤ p.2.toNat)) := by rw [E5.out]; rfl
    have E7 := Lib.hid e7
    clear e7 E5
    by_cases h1 : p.1.toNat ≤ c.toNat
    ·have hd : decide (p.1.toNat ≤ c.toNat) = true := decide_eq_true h1
     have e8 : inR (ps.take (i + 1)) c = decide (c.toNat ≤ p.2.toNat) := by rw [E7.out, hd]; rfl
     have E8 := Lib.hid e8
     clear e8 E7 h1
     go_wp2
     go_roundg j
     case measure => omega
     case rel => exact ⟨i + 1, by omega, by go_num, by rw [E8.out], rfl⟩
    ·have hd : decide (p.1.toNat ≤ c.toNat) = false := decide_eq_false h1
     have e8 : inR (ps.take (i + 1)) c = false := by rw [E7.out, hd]; rfl
     have E8 := Lib.hid e8
     clear e8 E7 h1
     go_wp2
     go_roundg j
     case measure => omega
     case rel => exact ⟨i + 1, by omega, by go_num, by rw [E8.out], rfl⟩
end Go.Proofs.YtejdmofljifkbaaGreatDoor.Gl
namespace Go.Proofs.YtejdmofljifkbaaGreatDoor.Gl
open Go.RowKit Go.Proofs.YtejdmofljifkbaaGreatDoorW.PrintWords Go.Proofs.YtejdmofljifkbaaGreatDoorW.PrintLast Go.Proofs.YtejdmofljifkbaaGreatDoorW.PrintMore
set_option linter.unusedSimpArgs false
set_option linter.unusedVariables false
open Go.Sort
def plainB (c : UInt8) : Bool := c != 63 && c != 91
theorem plain_ref (s : ByteArray) (n : Nat) (c : UInt8) (t : List UInt8) (h : Pos s n (c :: t)) (w : World) :
  Calls Tryz.prog 100 #[.string s, .int .i64 (n : Int)] w fun e w' => e = .returned (.bool (plainB c)) ∧ Below w.heap.size w w' := by
 have hlt := h.lt
 have hf : P.oakumref25_plain.f s n = some (plainB c) := by
  unfold P.oakumref25_plain.f
  rw [if_pos (by omega), if_pos (by omega), h.bt]
  by_cases e : c = 63
  ·subst e; rfl
  ·rw [if_neg (by exact u8_ne c 63 (by omega) e)]
   have e1 : ((c.toNat : Int) != 91) = (c != 91) := congrArg not (u8_eq c 91 (by omega))
   have e2 : (c != 63) = true := by simpa using e
   rw [e1]
   unfold plainB
   rw [e2]
   rfl
 refine (P.oakumref25_plain.calls s n _ w hf).mono ?_
 rintro e w' ⟨rfl, hd⟩
 exact ⟨rfl, hd.below⟩
def okL : Nat → List UInt8 → Bool
 | 0, _ => false
 | k + 1, l => match l with
  | [] => true
  | c :: t => match fst (c :: t) with
   | none => false
   | some (_, rest) => okL k rest
def starR (f : List UInt8 → Bool) (kd : Int) : List UInt8 → Bool
 | [] => f []
 | d :: u => f (d :: u) || (if kd = 1 ∧ d = 47 then false else starR f kd u)
def oneR (f : List UInt8 → Bool) (x : RP) (pl : Bool) : List UInt8 → Bool
 | [] => false
 | d :: u => hasR x.2.1 x.2.2 d pl && f u
def pieceR (f : List UInt8 → Bool) (x : RP) (pl : Bool) (u : List UInt8) : Bool := if x.1 = 0 then oneR f x pl u else starR f x.1 u
def matR : Nat → List UInt8 → List UInt8 → Bool
 | 0, _, _ => false
 | k + 1, l, u => match l with
  | [] => u.isEmpty
  | c :: t => match fst (c :: t) with
   | none => false
   | some (x, rest) => pieceR (matR k rest) x (plainB c) u
theorem setR_parts : ∀ (k : Nat) (l : List UInt8) (ps : List (UInt8 × UInt8)) (l2 : List UInt8) (p2 : List (UInt8 × UInt8)), setR k l ps = some (some (l2, p2)) → p2.length + l2.length ≤ ps.length + l.length
 | 0, _, _, _, _, h => by simp [setR] at h
 | k + 1, l, ps, l2, p2, h => by
  simp only [setR] at h
  split at h
  ·split at h
   ·simp at h
   ·simp at h; rw [h.1, h.2]; omega
  ·split at h
   ·simp at h
   ·rename_i hb
    have h1 := setR_parts k _ _ l2 p2 h
    have h2 := partR_lt l (fun e => hb (by rw [e]; exact partBad_nil))
    simp at h1
    omega
theorem fst_parts (c : UInt8) (t : List UInt8) (x : RP) (rest : List UInt8) (h : fst (c :: t) = some (x, rest)) : x.2.1.length ≤ t.length + 1 := by
 by_cases e42 : c = 42
 ·subst e42
  rw [fst_42] at h
  unfold fst42 at h
  split at h <;> (simp at h; rw [← h.1]; simp)
 by_cases e63 : c = 63
 ·subst e63; rw [fst_63] at h; simp at h; rw [← h.1]; simp
 by_cases e92 : c = 92
 ·subst e92
  rw [fst_92] at h
  cases t with
  | nil => simp [fst92] at h
  | cons d t => simp [fst92] at h; rw [← h.1]; simp
 by_cases e91 : c = 91
 ·subst e91
  rw [fst_91] at h
  cases hr : setR (t.length + 2) (setStart t) [] with
  | none => rw [hr] at h; simp [fst91] at h
  | some o => cases o with
   | none => rw [hr] at h; simp [fst91] at h
   | some y =>
    obtain ⟨l2, ps⟩ := y
    rw [hr] at h
    simp [fst91] at h
    have h1 := setR_parts _ _ _ _ _ hr
    have h2 := setStart_len t
    rw [← h.1]
    simp at h1 ⊢
    omega
 ·rw [fst_o t e42 e63 e92 e91] at h; simp at h; rw [← h.1]; simp
set_option maxRecDepth 100000 in
set_option maxHeartbeats 6400000 in
theorem match_ref (s t : ByteArray) (hs : s.size ≤ 1000) (ht : t.size ≤ 1000) : ∀ (k : Nat) (l : List UInt8) (n : Nat) (u : List UInt8) (i : Nat), Pos s n l → Pos t i u → okL k l = true → ∀ w : World,
  Calls Tryz.prog 54 #[.string s, .int .i64 (n : Int), .string t, .int .i64 (i : Int)] w fun e w' => e = .returned (.bool (matR k l u)) ∧ Below w.heap.size w w'
 | 0, l, n, u, i, hp, hq, hok, w => by simp [okL] at hok
 | k + 1, [], n, u, i, hp, hq, hok, w => by
  have hl := hp.len
  have hge : (s.size : Int) ≤ (n : Int) := by simp at hl; omega
  have hv : matR (k + 1) [] u = ((i : Int) == (t.size : Int)) := by
   have := hq.len
   cases u with
   | nil => simp at this; simp [matR]; omega
   | cons d u => simp at this; simp [matR]; omega
  rw [hv]
  clear hl hok hp hq hv
  go_enter Tryz.func54, Tryz.ntmps54
  go_wp2
  go_ret
  exact ⟨rfl, Below.refl _ _⟩
 | k + 1, c :: tl, n, u, i, hp, hq, hok, w => by
  have IH := match_ref s t hs ht k
  have hlt := hp.lt
  cases hf : fst (c :: tl) with
  | none => simp only [okL] at hok; rw [hf] at hok; simp at hok
  | some y =>
   obtain ⟨x, rest⟩ := y
   have hok2 : okL k rest = true := by simp only [okL] at hok; rw [hf] at hok; exact hok
   have hm : matR (k + 1) (c :: tl) u = pieceR (matR k rest) x (plainB c) u := by simp only [matR]; rw [hf]
   rw [hm]
   have hps := fst_parts c tl x rest hf
   have hlen := hp.len
   have hps2 : x.2.1.length ≤ 1000 := by simp at hlen; omega
   have FR := Lib.hid (first_ref s n c tl hp hs)
   rw [hf] at FR
   have PL := Lib.hid (plain_ref s n c tl hp)
   have HIH := Lib.hid (fun n2 (hp2 : Pos s n2 rest) u i (hq : Pos t i u) W => IH rest n2 u i hp2 hq hok2 W)
   have HQ := Lib.hid hq
   have HPS := Lib.hid hps2
   clear hm hok hok2 IH hp hf hq hps hps2 hlen
   generalize matR k rest = F at *
   go_enter Tryz.func54, Tryz.ntmps54
   go_wp2_with fail
   refine (FR.out _).mono ?_
   rintro e w1 ⟨pv, n2, rfl, hp2, hpo, hb1⟩
   obtain ⟨pA, pc, rfl⟩ := own_slice hpo
   have IH2 := Lib.hid (HIH.out n2 hp2)
   clear FR HIH
   have hn2 := hp2.le
   have hX := heap_alloc_new w1 (.cells #[.int .i64 x.1, .slice pA x.2.1.length pc, .bool x.2.2] 137)
   have hbX : Below w.heap.size w (w1.alloc (.cells #[.int .i64 x.1, .slice pA x.2.1.length pc, .bool x.2.2] 137)) := hb1.alloc hb1.size _
   have hpX := hpo.alloc (.cells #[.int .i64 x.1, .slice pA x.2.1.length pc, .bool x.2.2] 137)
   have HX := Lib.hid (And.intro hX (And.intro hbX hpX))
   clear hX hbX hpX hb1 hpo hp2
   go_upto_region 4 with (fail)
   obtain ⟨hX, hbX, hpX⟩ := HX.out
   clear HX
   generalize w1.alloc (.cells #[.int .i64 x.1, .slice pA x.2.1.length pc, .bool x.2.2] 137) = W1 at *
   generalize w1.heap.size = X at *
   have hc0 : W1.cell? ⟨X, 0, none⟩ = some (.int .i64 x.1) := cell_of_row W1 X 0 _ 137 (0, 0) hX
   have hc1 : W1.cell? ⟨X, 1, none⟩ = some (.slice pA x.2.1.length pc) := cell_of_row W1 X 1 _ 137 (0, 0) hX
   have hc2 : W1.cell? ⟨X, 2, none⟩ = some (.bool x.2.2) := cell_of_row W1 X 2 _ 137 (0, 0) hX
   by_cases hz : x.1 = 0
   ·have hv : pieceR F x (plainB c) u = oneR F x (plainB c) u := by unfold pieceR; rw [if_pos hz]
    have HV := Lib.hid hv
    rw [hz] at hc0
    clear hv hX
    go_upto_region 5 with (fail)
    cases u with
    | nil =>
     have hl := HQ.out.len
     have hnx : ¬ (i : Int) < (t.size : Int) := by simp at hl; omega
     clear hl
     go_quiet (fail)
     go_wp2
     go_ret
     exact ⟨by rw [HV.out]; rfl, pw_below_drewN hbX _⟩
    | cons d u2 =>
     have hlt2 := HQ.out.lt
     have hat2 := HQ.out.at hlt2
     have hw1 : wrap64 ((i : Int) + 1) = (i : Int) + 1 := by unfold wrap64; omega
     have k0 := cell_regrown hc0
     have k1 := cell_regrown hc1
     have k2 := cell_regrown hc2
     have cP : ∀ dd os, Calls Tryz.prog 100 #[.string s, .int .i64 (n : Int)] (grow (redrawn W1 dd) os) fun e w'' => e = .returned (.bool (plainB c)) ∧ ∃ p : Regrown, w'' = grow (redrawn W1 p.d) p.os := fun dd os => Calls.regrown_of (PL.out _)
     have cH : ∀ dd os, Calls Tryz.prog 99 #[.agg #[.int .i64 0, .slice pA x.2.1.length pc, .bool x.2.2], .int .u8 (d.toNat : Int), .bool (plainB c)] (grow (redrawn W1 dd) os) fun e w'' => e = .returned (.bool (hasR x.2.1 x.2.2 d (plainB c))) ∧ ∃ p : Regrown, w'' = grow (redrawn W1 p.d) p.os := fun dd os => Calls.regrown_of (has_ref 0 _ _ x.2.1 x.2.2 d (plainB c) _ (pw_own_below hpX (below_regrown W1 dd os)) HPS.out)
     have cM : ∀ dd os, Calls Tryz.prog 54 #[.string s, .int .i64 (n2 : Int), .string t, .int .i64 (IntKind.i64.wrap ((i : Int) + 1))] (grow (redrawn W1 dd) os) fun e w'' => e = .returned (.bool (F u2)) ∧ ∃ p : Regrown, w'' = grow (redrawn W1 p.d) p.os := fun dd os => Calls.regrown_of (by have := IH2.out u2 (i + 1) HQ.out.next (grow (redrawn W1 dd) os); rw [i64_w, hw1]; rw [show ((i + 1 : Nat) : Int) = (i : Int) + 1 from by omega] at this; exact this)
     have hv2 : pieceR F x (plainB c) (d :: u2) = (hasR x.2.1 x.2.2 d (plainB c) && F u2) := by rw [HV.out]; rfl
     have HV2 := Lib.hid hv2
     have CC := Lib.hid (And.intro cP (And.intro cH cM))
     clear hv2 HV PL IH2 HQ hpX cP cH cM hc0 hc1 hc2
     generalize hasR x.2.1 x.2.2 d (plainB c) = hb at *
     generalize F u2 = fb at *
     cases hb with
     | false =>
      refine wp_region_quiet_below (by kernel_rfl) (by kernel_rfl) ?_
      repeat (quiet_step (first | (with_reducible exact CC.out.1 _ _) | (with_reducible exact CC.out.2.1 _ _) | (with_reducible exact CC.out.2.2 _ _)))
      refine wpQuiet_nil ?_
      intro _ hw'
      obtain ⟨⟨dq, osq⟩, hw''⟩ := hw'
      subst hw''
      go_wp2
      go_ret
      exact ⟨by rw [HV2.out]; rfl, below_then hbX hbX.size (below_regrown _ dq osq)⟩
     | true =>
      refine wp_region_quiet_below (by kernel_rfl) (by kernel_rfl) ?_
      repeat (quiet_step (first | (with_reducible exact CC.out.1 _ _) | (with_reducible exact CC.out.2.1 _ _) | (with_reducible exact CC.out.2.2 _ _)))
      refine wpQuiet_nil ?_
      intro _ hw'
      obtain ⟨⟨dq, osq⟩, hw''⟩ := hw'
      subst hw''
      go_wp2
      go_ret
      exact ⟨by rw [HV2.out]; rfl, below_then hbX hbX.size (below_regrown _ dq osq)⟩
   ·have hz0 : (x.1 == 0) = false := beq_eq_false_iff_ne.2 hz
    have hv : pieceR F x (plainB c) u = starR F x.1 u := by unfold pieceR; rw [if_neg hz]
    have HV := Lib.hid hv
    have hXl : X < W1.heap.size := (Array.getElem?_eq_some_iff.1 hX).1
    have hil := HQ.out.le
    have hul := HQ.out.len
    clear hv hc1 hc2 hpX PL hz
    go_wp2_with fail
    go_loopg [11] (u.length + 1) (fun gk v11 wr => wr.cell? ⟨X, 0, none⟩ = some (.int .i64 x.1) ∧ Below w.heap.size w wr ∧ X < wr.heap.size ∧ ∃ j : Nat, v11 = .int .i64 (j : Int) ∧ Aside0 ((∃ uu, Pos t j uu ∧ gk = uu.length + 1 ∧ starR F x.1 u = starR F x.1 uu) ∨ (j = t.size + 1 ∧ gk = 0 ∧ starR F x.1 u = false)))
    case atStart => exact ⟨hc0, hbX, hXl, i, rfl, ⟨.inl ⟨u, HQ.out, rfl, rfl⟩⟩⟩
    case round =>
     clear hc0 hbX hXl hX
     obtain ⟨hc0, hbX, hXl, j, rfl, hA⟩ := hrel
     cases gk with
     | zero =>
      obtain ⟨rfl, hsr⟩ : j = t.size + 1 ∧ starR F x.1 u = false := by
       rcases hA.out with ⟨uu, _, h, _⟩ | ⟨h1, _, h2⟩
       ·omega
       ·exact ⟨h1, h2⟩
      have HSR := Lib.hid hsr
      clear hsr hA
      go_wp2
      go_ret
      exact ⟨by rw [HV.out, HSR.out]; rfl, hbX⟩
     | succ gj =>
      obtain ⟨uu, hq2, hgj, hsr⟩ : ∃ uu, Pos t j uu ∧ gj = uu.length ∧ starR F x.1 u = starR F x.1 uu := by
       rcases hA.out with ⟨uu, h1, h, h2⟩ | ⟨_, h, _⟩
       ·exact ⟨uu, h1, by omega, h2⟩
       ·omega
      have hle2 := hq2.le
      have HSR := Lib.hid hsr
      have HQ2 := Lib.hid hq2
      clear hsr hA hq2
      go_wp2_with fail
      refine (IH2.out uu j HQ2.out _).mono ?_
      rintro e w2 ⟨rfl, hb2⟩
      have hc2 := (hb2.cell hXl).trans hc0
      have hbW := below_then hbX hbX.size hb2
      have hXl2 : X < w2.heap.size := Nat.lt_of_lt_of_le hXl hb2.size
      clear hb2 hbX hc0 hXl
      obtain ⟨fb, hfb⟩ : ∃ b, F uu = b := ⟨_, rfl⟩
      rw [hfb]
      have HFB := Lib.hid hfb
      clear hfb
      cases fb with
      | true =>
       go_wp2
       go_ret
       exact ⟨by rw [HV.out, HSR.out]; cases uu <;> (unfold starR; rw [HFB.out]; rfl), hbW⟩
      | false =>
       cases uu with
       | nil =>
        have hl := HQ2.out.len
        have hnx : ¬ (j : Int) < (t.size : Int) := by simp at hl; omega
        have hj : j = t.size := by simp at hl; omega
        clear hl
        go_wp2
        go_roundg 0
        case measure => omega
        case rel => exact ⟨hc2, hbW, hXl2, j + 1, by go_num, ⟨.inr ⟨by omega, rfl, by rw [HSR.out]; unfold starR; exact HFB.out⟩⟩⟩
       | cons d u3 =>
        have hlt2 := HQ2.out.lt
        have hat2 := HQ2.out.at hlt2
        by_cases h1 : x.1 = 1 ∧ d = 47
        ·obtain ⟨h1, rfl⟩ := h1
         have hk1 : (x.1 == 1) = true := beq_iff_eq.2 h1
         have q47 : (((47 : UInt8).toNat : Int) == 47) = true := rfl
         have hsv : starR F x.1 (47 :: u3) = false := by unfold starR; rw [HFB.out, if_pos ⟨h1, rfl⟩]; rfl
         have HSV := Lib.hid hsv
         clear hsv h1
         go_wp2
         go_ret
         exact ⟨by rw [HV.out, HSR.out, HSV.out]; rfl, hbW⟩
        ·have hsv : starR F x.1 (d :: u3) = starR F x.1 u3 := by
          show (F (d :: u3) || (if x.1 = 1 ∧ d = 47 then false else starR F x.1 u3)) = _
          rw [HFB.out, if_neg h1]; rfl
         have HSV := Lib.hid hsv
         have HP3 := Lib.hid HQ2.out.next
         clear hsv
         cases hk1 : (x.1 == 1) with
         | false =>
          clear h1
          go_wp2
          go_roundg gj
          case measure => omega
          case rel => exact ⟨hc2, hbW, hXl2, j + 1, by go_num, ⟨.inl ⟨u3, HP3.out, by simpa using hgj, by rw [HSR.out, HSV.out]⟩⟩⟩
         | true =>
          have h47 : ((d.toNat : Int) == 47) = false := (u8_eq d 47 (by omega)).trans (beq_eq_false_iff_ne.2 (fun h => h1 ⟨beq_iff_eq.1 hk1, h⟩))
          clear h1
          go_wp2
          go_roundg gj
          case measure => omega
          case rel => exact ⟨hc2, hbW, hXl2, j + 1, by go_num, ⟨.inl ⟨u3, HP3.out, by simpa using hgj, by rw [HSR.out, HSV.out]⟩⟩⟩
end Go.Proofs.YtejdmofljifkbaaGreatDoor.Gl
namespace Go.Proofs.YtejdmofljifkbaaGreatDoor.Gl
open Go.RowKit Go.Proofs.YtejdmofljifkbaaGreatDoorW.PrintWords Go.Proofs.YtejdmofljifkbaaGreatDoorW.PrintLast Go.Proofs.YtejdmofljifkbaaGreatDoorW.PrintMore
set_option linter.unusedSimpArgs false
set_option linter.unusedVariables false
def onePc (f : List UInt8 → Bool) (x : Pc) : List UInt8 → Bool
  | [] => false
  | d :: u => x.2.getD d.toNat false && f u
def piecePc (f : List UInt8 → Bool) (x : Pc) (u : List UInt8) : Bool := if x.1 = 0 then onePc f x u else starR f x.1 u
def matP : List Pc → List UInt8 → Bool
  | [], u => u.isEmpty
  | x :: ps, u => piecePc (matP ps) x u
theorem starR_self (f : List UInt8 → Bool) (kd : Int) (u : List UInt8) (h : f u = true) : starR f kd u = true := by
  cases u <;> (unfold starR; rw [h]; try rfl)
theorem getD_set (M : List Bool) (j k : Nat) (b : Bool) : (M.set j b).getD k false = if k = j ∧ j < M.length then b else M.getD k false := by
  rw [List.getD_eq_getElem?_getD, List.getD_eq_getElem?_getD, List.getElem?_set]
  by_cases h1 : j = k
  · subst h1
    by_cases h2 : j < M.length
    · simp [h2]
    · simp [h2]
  · rw [if_neg h1, if_neg (fun h => h1 h.1.symm)]
section
variable (ps : List Pc)
def star (k : Nat) : Bool := (ps.getD k (0, [])).1 != 0
theorem skipTo_succ (M : List Bool) (k : Nat) : skipTo ps M (k + 1) = if (skipTo ps M k).getD k false && star ps k then (skipTo ps M k).set (k + 1) true else skipTo ps M k := rfl
theorem skip_above (M : List Bool) : ∀ (j k : Nat), j < k → (skipTo ps M j).getD k false = M.getD k false
  | 0, k, h => rfl
  | j + 1, k, h => by
    rw [skipTo_succ]
    split
    · rw [getD_set, if_neg (by omega)]; exact skip_above M j k (by omega)
    · exact skip_above M j k (by omega)
theorem skip_stable (M : List Bool) (k : Nat) : ∀ j, k ≤ j → (skipTo ps M j).getD k false = (skipTo ps M k).getD k false
  | 0, h => by obtain rfl : k = 0 := by omega
               rfl
  | j + 1, h => by
    by_cases e : k = j + 1
    · rw [e]
    · rw [skipTo_succ]
      split
      · rw [getD_set, if_neg (by omega)]; exact skip_stable M k j (by omega)
      · exact skip_stable M k j (by omega)
theorem skip_char (M : List Bool) (n k : Nat) (hk : k + 1 ≤ n) (hM : M.length = n + 1) : (skipTo ps M n).getD (k + 1) false = (M.getD (k + 1) false || ((skipTo ps M n).getD k false && star ps k)) := by
  rw [skip_stable ps M (k + 1) n hk, skip_stable ps M k n (by omega), skipTo_succ]
  by_cases h : ((skipTo ps M k).getD k false && star ps k) = true
  · rw [if_pos h, h, getD_set, if_pos ⟨rfl, by rw [skipTo_len]; omega⟩, Bool.or_true]
  · rw [if_neg h, skip_above ps M k (k + 1) (by omega), Bool.eq_false_iff.2 h, Bool.or_false]
theorem skip_zero (M : List Bool) (n : Nat) : (skipTo ps M n).getD 0 false = M.getD 0 false := skip_stable ps M 0 n (Nat.zero_le _)
def Acc (M : List Bool) (u : List UInt8) : Prop := ∃ k, k ≤ ps.length ∧ M.getD k false = true ∧ matP (ps.drop k) u = true
theorem drop_star (k : Nat) (hk : k < ps.length) : ∃ x, ps.drop k = x :: ps.drop (k + 1) ∧ ps.getD k (0, []) = x ∧ x ∈ ps := by
  refine ⟨ps[k], List.drop_eq_getElem_cons hk, ?_, List.getElem_mem hk⟩
  rw [List.getD_eq_getElem?_getD, List.getElem?_eq_getElem hk]; rfl
theorem acc_skip (M : List Bool) (hM : M.length = ps.length + 1) (u : List UInt8) : Acc ps (skipTo ps M ps.length) u ↔ Acc ps M u := by
  constructor
  · rintro ⟨k, hk, hm, hu⟩
    induction k with
    | zero => rw [skip_zero] at hm; exact ⟨0, hk, hm, hu⟩
    | succ k ih =>
      rw [skip_char ps M ps.length k hk hM] at hm
      rcases Bool.or_eq_true_iff.1 hm with h | h
      · exact ⟨k + 1, hk, h, hu⟩
      · obtain ⟨h1, h2⟩ := Bool.and_eq_true_iff.1 h
        obtain ⟨x, e1, e2, _⟩ := drop_star ps k (by omega)
        refine ih (by omega) h1 ?_
        rw [e1]
        show piecePc _ x u = true
        unfold star at h2
        rw [e2] at h2
        unfold piecePc
        rw [if_neg (by simpa using h2)]
        exact starR_self _ _ _ hu
  · rintro ⟨k, hk, hm, hu⟩
    refine ⟨k, hk, ?_, hu⟩
    cases k with
    | zero => rw [skip_zero]; exact hm
    | succ k => rw [skip_char ps M ps.length k hk hM, hm]; rfl
def Puts (M : List Bool) (c : UInt8) (q k : Nat) : Prop := M.getD k false = true ∧ (((ps.getD k (0, [])).1 = 0 ∧ (ps.getD k (0, [])).2.getD c.toNat false = true ∧ q = k + 1) ∨ ((ps.getD k (0, [])).1 ≠ 0 ∧ ((ps.getD k (0, [])).1 = 2 ∨ c ≠ 47) ∧ q = k))
theorem ex_succ (P : Nat → Prop) (j : Nat) : (∃ k, k < j + 1 ∧ P k) ↔ ((∃ k, k < j ∧ P k) ∨ P j) := by
  constructor
  · rintro ⟨k, h, hp⟩
    by_cases e : k = j
    · subst e; exact .inr hp
    · exact .inl ⟨k, by omega, hp⟩
  · rintro (⟨k, h, hp⟩ | hp)
    · exact ⟨k, by omega, hp⟩
    · exact ⟨j, by omega, hp⟩
theorem next_char (M : List Bool) (c : UInt8) (q : Nat) : ∀ j, j ≤ ps.length → ((nextTo ps M c j).getD q false = true ↔ ∃ k, k < j ∧ Puts ps M c q k)
  | 0, _ => by
    constructor
    · intro h
      simp only [nextTo] at h
      rw [List.getD_eq_getElem?_getD, List.getElem?_replicate] at h
      split at h <;> simp at h
    · rintro ⟨k, h, _⟩; omega
  | j + 1, hj => by
    have ih := next_char M c q j (by omega)
    have hl := nextTo_len ps M c j
    rw [ex_succ, ← ih]
    simp only [nextTo]
    generalize nextTo ps M c j = N at *
    unfold Puts
    generalize ps.getD j (0, []) = x at *
    by_cases hm : M.getD j false = false
    · rw [if_pos hm, hm]; simp
    · rw [if_neg hm]
      have hm1 : M.getD j false = true := by simpa using hm
      by_cases h0 : x.1 = 0
      · rw [if_pos h0, getD_set, hm1]
        by_cases hq : q = j + 1
        · subst hq
          rw [if_pos ⟨rfl, by omega⟩, Bool.or_eq_true_iff]
          simp [h0]
        · rw [if_neg (fun h => hq h.1)]
          simp [h0, hq]
      · rw [if_neg h0, hm1]
        by_cases h2 : x.1 = 2 ∨ c ≠ 47
        · rw [if_pos h2, getD_set]
          by_cases hq : q = j
          · subst hq
            rw [if_pos ⟨rfl, by omega⟩]
            simp only [true_iff]
            exact .inr ⟨trivial, .inr ⟨h0, h2, trivial⟩⟩
          · rw [if_neg (fun h => hq h.1)]
            constructor
            · exact .inl
            · rintro (h | ⟨_, ⟨h, _⟩ | ⟨_, _, h⟩⟩)
              · exact h
              · exact absurd h h0
              · exact absurd h hq
        · rw [if_neg h2]
          constructor
          · exact .inl
          · rintro (h | ⟨_, ⟨h, _⟩ | ⟨_, h, _⟩⟩)
            · exact h
            · exact absurd h h0
            · exact absurd h h2
def Closed (M : List Bool) : Prop := ∀ k, k < ps.length → M.getD k false = true → star ps k = true → M.getD (k + 1) false = true
theorem skip_closed (M : List Bool) (hM : M.length = ps.length + 1) : Closed ps (skipTo ps M ps.length) := by
  intro k hk h1 h2
  rw [skip_char ps M ps.length k (by omega) hM, h1, h2]
  simp
theorem mt_closed (s : List UInt8) (i : Nat) : Closed ps (mt ps s i) := by
  cases i with
  | zero => exact skip_closed ps _ (by simp)
  | succ i => exact skip_closed ps _ (nextTo_len _ _ _ _)
theorem acc_step (hK : ∀ x ∈ ps, x.1 = 0 ∨ x.1 = 1 ∨ x.1 = 2) (M : List Bool) (hc : Closed ps M) (d : UInt8) (u : List UInt8) : Acc ps (nextTo ps M d ps.length) u ↔ Acc ps M (d :: u) := by
  constructor
  · rintro ⟨q, hq, hm, hu⟩
    obtain ⟨k, hk, h1, h2⟩ := (next_char ps M d q ps.length (Nat.le_refl _)).1 hm
    obtain ⟨x, e1, e2, hx⟩ := drop_star ps k hk
    rw [e2] at h2
    refine ⟨k, by omega, h1, ?_⟩
    rw [e1]
    show piecePc _ x (d :: u) = true
    unfold piecePc
    rcases h2 with ⟨h3, h4, rfl⟩ | ⟨h3, h4, hqk⟩
    · rw [if_pos h3]
      show (x.2.getD d.toNat false && _) = true
      rw [h4, hu]; rfl
    · rw [if_neg h3]
      show (_ || (if x.1 = 1 ∧ d = 47 then false else starR _ x.1 u)) = true
      rw [hqk, e1] at hu
      have hu2 : piecePc (matP (ps.drop (k + 1))) x u = true := hu
      unfold piecePc at hu2
      rw [if_neg h3] at hu2
      rw [if_neg (fun h => h4.elim (fun e => by rw [e] at h; exact absurd h.1 (by decide)) (fun e => e h.2)), hu2, Bool.or_true]
  · rintro ⟨k, hk, hm, hu⟩
    have key : ∀ m k, ps.length - k = m → k ≤ ps.length → M.getD k false = true → matP (ps.drop k) (d :: u) = true → Acc ps (nextTo ps M d ps.length) u := by
      intro m
      induction m with
      | zero =>
        intro k h0 hk hm hu
        obtain rfl : k = ps.length := by omega
        rw [List.drop_length] at hu
        simp [matP] at hu
      | succ m ih =>
        intro k h0 hk hm hu
        have hk2 : k < ps.length := by omega
        obtain ⟨x, e1, e2, hx⟩ := drop_star ps k hk2
        rw [e1] at hu
        have hu2 : piecePc (matP (ps.drop (k + 1))) x (d :: u) = true := hu
        unfold piecePc at hu2
        by_cases h3 : x.1 = 0
        · rw [if_pos h3] at hu2
          have hu3 : (x.2.getD d.toNat false && matP (ps.drop (k + 1)) u) = true := hu2
          obtain ⟨h4, h5⟩ := Bool.and_eq_true_iff.1 hu3
          exact ⟨k + 1, by omega, (next_char ps M d (k + 1) ps.length (Nat.le_refl _)).2 ⟨k, hk2, hm, .inl ⟨by rw [e2]; exact h3, by rw [e2]; exact h4, rfl⟩⟩, h5⟩
        · rw [if_neg h3] at hu2
          have hu3 : (matP (ps.drop (k + 1)) (d :: u) || (if x.1 = 1 ∧ d = 47 then false else starR (matP (ps.drop (k + 1))) x.1 u)) = true := hu2
          rcases Bool.or_eq_true_iff.1 hu3 with h4 | h4
          · refine ih (k + 1) (by omega) (by omega) (hc k hk2 hm ?_) h4
            unfold star
            rw [e2]
            simpa using h3
          · by_cases h5 : x.1 = 1 ∧ d = 47
            · rw [if_pos h5] at h4; cases h4
            · rw [if_neg h5] at h4
              refine ⟨k, by omega, (next_char ps M d k ps.length (Nat.le_refl _)).2 ⟨k, hk2, hm, .inr ⟨by rw [e2]; exact h3, ?_, rfl⟩⟩, ?_⟩
              · rw [e2]
                rcases hK x hx with h | h | h
                · exact absurd h h3
                · exact .inr (fun e => h5 ⟨h, e⟩)
                · exact .inl h
              · rw [e1]
                show piecePc _ x u = true
                unfold piecePc
                rw [if_neg h3]
                exact h4
    exact key _ k rfl hk hm hu
theorem mt_acc (hK : ∀ x ∈ ps, x.1 = 0 ∨ x.1 = 1 ∨ x.1 = 2) (s : List UInt8) : ∀ i, i ≤ s.length → (Acc ps (mt ps s i) (s.drop i) ↔ matP ps s = true)
  | 0, _ => by
    simp only [mt]
    rw [acc_skip ps _ (by simp), List.drop_zero]
    constructor
    · rintro ⟨k, hk, hm, hu⟩
      cases k with
      | zero => simpa using hu
      | succ k =>
        rw [List.getD_eq_getElem?_getD, List.getElem?_cons_succ, List.getElem?_replicate] at hm
        split at hm <;> simp at hm
    · intro h
      exact ⟨0, Nat.zero_le _, rfl, by simpa using h⟩
  | i + 1, hi => by
    have ih := mt_acc hK s i (by omega)
    have hd : s.drop i = s.getD i 0 :: s.drop (i + 1) := by
      rw [List.getD_eq_getElem?_getD, List.getElem?_eq_getElem (by omega : i < s.length)]
      exact List.drop_eq_getElem_cons (by omega)
    simp only [mt]
    rw [acc_skip ps _ (nextTo_len _ _ _ _), acc_step ps hK _ (mt_closed ps s i), ← hd]
    exact ih
theorem matchB_eq (hK : ∀ x ∈ ps, x.1 = 0 ∨ x.1 = 1 ∨ x.1 = 2) (s : List UInt8) : matchB ps s = matP ps s := by
  have h := mt_acc ps hK s s.length (Nat.le_refl _)
  rw [List.drop_length] at h
  have hc := mt_closed ps s s.length
  rw [Bool.eq_iff_iff, ← h]
  unfold matchB
  generalize mt ps s s.length = M at *
  constructor
  · intro hm
    exact ⟨ps.length, Nat.le_refl _, hm, by rw [List.drop_length]; rfl⟩
  · rintro ⟨k, hk, hm, hu⟩
    have key : ∀ m k, ps.length - k = m → k ≤ ps.length → M.getD k false = true → matP (ps.drop k) [] = true → M.getD ps.length false = true := by
      intro m
      induction m with
      | zero =>
        intro k h0 hk hm hu
        obtain rfl : k = ps.length := by omega
        exact hm
      | succ m ih =>
        intro k h0 hk hm hu
        have hk2 : k < ps.length := by omega
        obtain ⟨x, e1, e2, hx⟩ := drop_star ps k hk2
        rw [e1] at hu
        have hu2 : piecePc (matP (ps.drop (k + 1))) x [] = true := hu
        unfold piecePc at hu2
        by_cases h3 : x.1 = 0
        · rw [if_pos h3] at hu2; cases hu2
        · rw [if_neg h3] at hu2
          exact ih (k + 1) (by omega) (by omega) (hc k hk2 hm (by unfold star; rw [e2]; simpa using h3)) hu2
    exact key _ k rfl hk hm hu
end
theorem zs_getD (i : Nat) : zs.getD i false = false := by
  rw [List.getD_eq_getElem?_getD]
  unfold zs
  rw [List.getElem?_replicate]
  split <;> rfl
theorem rngS_getD (f : List Bool) (a : Nat) : ∀ n, a + n ≤ f.length → ∀ i, (rngS f a n).getD i false = (f.getD i false || (decide (a ≤ i) && decide (i < a + n)))
  | 0, h, i => by
    have : (decide (a ≤ i) && decide (i < a + 0)) = false := by simp
    rw [this, Bool.or_false]
    rfl
  | n + 1, h, i => by
    rw [rngS_succ, getD_set, rngS_len, rngS_getD f a n (by omega) i]
    by_cases e : i = a + n
    · rw [if_pos ⟨e, by omega⟩, decide_eq_true (by omega : a ≤ i), decide_eq_true (by omega : i < a + (n + 1))]; simp
    · rw [if_neg (fun h => e h.1)]
      congr 2
      rw [decide_eq_decide]
      omega
theorem mk_len (ps : List (UInt8 × UInt8)) : (mk ps).length = 256 := by
  suffices h : ∀ (ps : List (UInt8 × UInt8)) (f : List Bool), f.length = 256 → (ps.foldl (fun f p => rngS f p.1.toNat (p.2.toNat + 1 - p.1.toNat)) f).length = 256 from h ps zs zs_len
  intro ps
  induction ps with
  | nil => intro f h; exact h
  | cons p ps ih => intro f h; exact ih _ (by rw [rngS_len]; exact h)
theorem mk_getD (ps : List (UInt8 × UInt8)) (d : UInt8) : (mk ps).getD d.toNat false = inR ps d := by
  suffices h : ∀ (ps : List (UInt8 × UInt8)) (f : List Bool), f.length = 256 → (ps.foldl (fun f p => rngS f p.1.toNat (p.2.toNat + 1 - p.1.toNat)) f).getD d.toNat false = (f.getD d.toNat false || inR ps d) by
    have := h ps zs zs_len
    rw [zs_getD, Bool.false_or] at this
    exact this
  intro ps
  induction ps with
  | nil => intro f h; simp [inR]
  | cons p ps ih =>
    intro f h
    have hp1 := p.1.toNat_lt
    have hp2 := p.2.toNat_lt
    rw [List.foldl_cons, ih _ (by rw [rngS_len]; exact h)]
    have e : (rngS f p.1.toNat (p.2.toNat + 1 - p.1.toNat)).getD d.toNat false = (f.getD d.toNat false || (decide (p.1.toNat ≤ d.toNat) && decide (d.toNat ≤ p.2.toNat))) := by
      by_cases hle : p.1.toNat ≤ p.2.toNat + 1
      · rw [rngS_getD f _ _ (by omega)]
        congr 2
        rw [decide_eq_decide]
        omega
      · rw [show p.2.toNat + 1 - p.1.toNat = 0 from by omega]
        have : (decide (p.1.toNat ≤ d.toNat) && decide (d.toNat ≤ p.2.toNat)) = false := by
          rw [Bool.and_eq_false_iff, decide_eq_false_iff_not, decide_eq_false_iff_not]; omega
        rw [this, Bool.or_false]
        rfl
    rw [e]
    simp [inR, Bool.or_assoc]
theorem flip_getD (f : List Bool) (hf : f.length = 256) (i : Nat) (hi : i < 256) : (flip f 256).getD i false = !f.getD i false := by
  unfold flip
  rw [List.take_of_length_le (by omega), List.drop_of_length_le (by omega), List.append_nil, List.getD_eq_getElem?_getD, List.getElem?_map, List.getD_eq_getElem?_getD, List.getElem?_eq_getElem (by omega)]
  rfl
theorem u47 (d : UInt8) : d.toNat = 47 ↔ d = 47 := ⟨fun h => by rw [← UInt8.toNat_inj]; exact h, fun h => by rw [h]; rfl⟩
theorem fin47_getD (ps : List (UInt8 × UInt8)) (nb : Bool) (d : UInt8) : (fin47 (mk ps) nb).getD d.toNat false = hasR ps nb d false := by
  have hd := d.toNat_lt
  unfold fin47 hasR
  rw [getD_set, Bool.or_false]
  by_cases h : d = 47
  · subst h
    have hl : (if nb = true then flip (mk ps) 256 else mk ps).length = 256 := by split <;> simp [flip_len, mk_len]
    rw [if_pos ⟨rfl, by rw [hl]; omega⟩]
    simp
  · rw [if_neg (fun e => h ((u47 d).1 e.1))]
    have h2 : (d != 47) = true := by simpa using h
    rw [h2, Bool.and_true]
    cases nb with
    | true => rw [if_pos rfl, flip_getD _ (mk_len ps) _ (by omega), mk_getD]; cases inR ps d <;> rfl
    | false => rw [if_neg (by decide), mk_getD]; cases inR ps d <;> rfl
theorem one_getD (c d : UInt8) : (zs.set c.toNat true).getD d.toNat false = decide (d = c) := by
  rw [getD_set, zs_getD, zs_len]
  have hc := c.toNat_lt
  by_cases h : d = c
  · rw [h, if_pos ⟨rfl, by omega⟩]; simp
  · rw [if_neg (fun e => h (UInt8.toNat_inj.1 e.1)), decide_eq_false h]
theorem inR_one (c d : UInt8) : inR [(c, c)] d = decide (d = c) := by
  simp only [inR, List.any_cons, List.any_nil, Bool.or_false]
  rw [Bool.eq_iff_iff, Bool.and_eq_true_iff, decide_eq_true_iff, decide_eq_true_iff, decide_eq_true_iff, ← UInt8.toNat_inj]
  omega
theorem qs_getD (d : UInt8) : (qs 256).getD d.toNat false = (d != 47) := by
  have hd := d.toNat_lt
  rw [List.getD_eq_getElem?_getD]
  unfold qs
  rw [List.getElem?_map, List.getElem?_range (by omega)]
  show (decide (d.toNat < 256) && d.toNat != 47) = _
  rw [decide_eq_true (by omega), Bool.true_and, Bool.eq_iff_iff, bne_iff_ne, bne_iff_ne]
  exact not_congr (u47 d)
def Rep (c : UInt8) (x : RP) (p : Pc) : Prop := p.1 = x.1 ∧ (x.1 = 0 ∨ x.1 = 1 ∨ x.1 = 2) ∧ (x.1 = 0 → ∀ d : UInt8, p.2.getD d.toNat false = hasR x.2.1 x.2.2 d (plainB c))
theorem comp_step (k : Nat) (c : UInt8) (t : List UInt8) (ps : List Pc) :
    (fst (c :: t) = none ∧ compL (k + 1) (c :: t) ps = some none) ∨
    ∃ x rest p, fst (c :: t) = some (x, rest) ∧ Rep c x p ∧ compL (k + 1) (c :: t) ps = compL k rest (ps ++ [p]) := by
  by_cases e42 : c = 42
  · subst e42
    right
    rw [fst_42]
    unfold fst42
    by_cases h : t.head? = some 42
    · exact ⟨(2, [], false), t.tail, (2, zs), if_pos h, ⟨rfl, .inr (.inr rfl), fun h => absurd h (by decide)⟩, by simp only [compL]; rw [if_pos trivial, if_pos h]⟩
    · exact ⟨(1, [], false), t, (1, zs), if_neg h, ⟨rfl, .inr (.inl rfl), fun h => absurd h (by decide)⟩, by simp only [compL]; rw [if_pos trivial, if_neg h]⟩
  by_cases e63 : c = 63
  · subst e63
    right
    refine ⟨_, _, (0, qs 256), fst_63 t, ⟨rfl, .inl rfl, fun _ d => ?_⟩, by simp only [compL]; rw [if_neg (by decide), if_pos trivial]⟩
    show (qs 256).getD d.toNat false = _
    rw [qs_getD]
    show _ = ((inR [] d != true) && (d != 47 || plainB 63))
    cases (d != 47) <;> rfl
  by_cases e91 : c = 91
  · subst e91
    have hl := setStart_len t
    have hs := setLR (t.length + 2) (setStart t) [] (by omega)
    obtain ⟨r, hr⟩ := setR_some (t.length + 2) (setStart t) [] (by omega)
    rw [hr] at hs
    have hc : compL (k + 1) (91 :: t) ps = setK (compL k) t ps (setL (t.length + 2) true (setStart t) zs) := by
      simp only [compL]; rw [if_neg (by decide), if_neg (by decide), if_pos trivial]
    have hs2 : setL (t.length + 2) true (setStart t) zs = (some r).map fun o => o.map fun x => (x.1, mk x.2) := hs
    rw [hc, hs2, fst_91, hr]
    cases r with
    | none => left; exact ⟨rfl, rfl⟩
    | some y =>
      obtain ⟨l2, qs⟩ := y
      right
      refine ⟨(0, qs, setNot t), l2.tail, (0, fin47 (mk qs) (setNot t)), rfl, ⟨rfl, .inl rfl, fun _ d => ?_⟩, rfl⟩
      exact fin47_getD qs (setNot t) d
  by_cases e92 : c = 92
  · subst e92
    have hc : compL (k + 1) (92 :: t) ps = escK (compL k) ps t := by
      simp only [compL]; rw [if_neg (by decide), if_neg (by decide), if_neg (by decide), if_pos trivial]
    rw [hc, fst_92]
    cases t with
    | nil => left; exact ⟨rfl, rfl⟩
    | cons d2 t =>
      right
      refine ⟨(0, [(d2, d2)], false), t, (0, zs.set d2.toNat true), rfl, ⟨rfl, .inl rfl, fun _ d => ?_⟩, rfl⟩
      show (zs.set d2.toNat true).getD d.toNat false = ((inR [(d2, d2)] d != false) && (d != 47 || true))
      rw [one_getD, inR_one, Bool.or_true, Bool.and_true]
      cases decide (d = d2) <;> rfl
  · right
    refine ⟨_, _, (0, zs.set c.toNat true), fst_o t e42 e63 e92 e91, ⟨rfl, .inl rfl, fun _ d => ?_⟩, by simp only [compL]; rw [if_neg e42, if_neg e63, if_neg e91, if_neg e92]⟩
    show (zs.set c.toNat true).getD d.toNat false = ((inR [(c, c)] d != false) && (d != 47 || plainB c))
    have : plainB c = true := by
      unfold plainB
      have h1 : (c != 63) = true := by simpa using e63
      have h2 : (c != 91) = true := by simpa using e91
      rw [h1, h2]; rfl
    rw [one_getD, inR_one, this, Bool.or_true, Bool.and_true]
    cases decide (d = c) <;> rfl
theorem comp_ref : ∀ (k : Nat) (l : List UInt8) (ps : List Pc) (xs : List RP), l.length < k →
    (compL k l ps = some none ∧ pcL k l xs = some none) ∨
    ∃ qs ys, compL k l ps = some (some (ps ++ qs)) ∧ pcL k l xs = some (some ys) ∧ okL k l = true ∧ (∀ x ∈ qs, x.1 = 0 ∨ x.1 = 1 ∨ x.1 = 2) ∧ qs.length ≤ l.length ∧ ∀ u, matR k l u = matP qs u
  | 0, l, ps, xs, h => by omega
  | k + 1, [], ps, xs, h => .inr ⟨[], xs, by simp [compL], rfl, rfl, fun x hx => by simp at hx, Nat.le_refl _, fun u => rfl⟩
  | k + 1, c :: t, ps, xs, h => by
    rcases comp_step k c t ps with ⟨h1, h2⟩ | ⟨x, rest, p, h1, h2, h3⟩
    · left; refine ⟨h2, ?_⟩; simp only [pcL]; rw [h1]
    · have hr := fst_len c t x rest h1
      simp only [List.length_cons] at h
      rcases comp_ref k rest (ps ++ [p]) (xs ++ [x]) (by omega) with ⟨h4, h5⟩ | ⟨qs, ys, h4, h5, h6, h7, h8, h9⟩
      · left; refine ⟨h3.trans h4, ?_⟩; simp only [pcL]; rw [h1]; exact h5
      · right
        refine ⟨p :: qs, ys, by rw [h3, h4, List.append_assoc]; rfl, by simp only [pcL]; rw [h1]; exact h5, by simp only [okL]; rw [h1]; exact h6, ?_, by simp; omega, ?_⟩
        · intro y hy
          rcases List.mem_cons.1 hy with rfl | hy
          · rw [h2.1]; exact h2.2.1
          · exact h7 y hy
        · intro u
          have e1 : matR (k + 1) (c :: t) u = pieceR (matR k rest) x (plainB c) u := by simp only [matR]; rw [h1]
          rw [e1]
          show _ = piecePc (matP qs) p u
          unfold pieceR piecePc
          rw [funext h9, h2.1]
          by_cases h0 : x.1 = 0
          · rw [if_pos h0, if_pos h0]
            cases u with
            | nil => rfl
            | cons d u =>
              show (hasR x.2.1 x.2.2 d (plainB c) && _) = (p.2.getD d.toNat false && _)
              rw [h2.2.2 h0 d]
          · rw [if_neg h0, if_neg h0]
end Go.Proofs.YtejdmofljifkbaaGreatDoor.Gl
namespace Go.Proofs.YtejdmofljifkbaaGreatDoor.Gl
open Go.RowKit Go.Proofs.YtejdmofljifkbaaGreatDoorW.PrintWords Go.Proofs.YtejdmofljifkbaaGreatDoorW.PrintLast Go.Proofs.YtejdmofljifkbaaGreatDoorW.PrintMore
set_option linter.unusedSimpArgs false
set_option linter.unusedVariables false
def rightB (s : ByteArray) : Bool := okL (s.size + 1) s.data.toList
def matB (s t : ByteArray) : Bool := matR (s.size + 1) s.data.toList t.data.toList
theorem ok_none : ∀ (k : Nat) (l : List UInt8) (xs : List RP), pcL k l xs = some none → okL k l = false
 | 0, l, xs, h => by simp [pcL] at h
 | k + 1, [], xs, h => by simp [pcL] at h
 | k + 1, c :: t, xs, h => by
  simp only [pcL] at h
  simp only [okL]
  cases hf : fst (c :: t) with
  | none => rfl
  | some y =>
   obtain ⟨x, rest⟩ := y
   rw [hf] at h
   exact ok_none k rest _ h
theorem both (s : ByteArray) : (rightB s = false ∧ compL (s.size + 1) s.data.toList [] = some none ∧ pcL (s.size + 1) s.data.toList [] = some none) ∨
  ∃ qs ys, rightB s = true ∧ compL (s.size + 1) s.data.toList [] = some (some qs) ∧ pcL (s.size + 1) s.data.toList [] = some (some ys) ∧ (∀ x ∈ qs, x.1 = 0 ∨ x.1 = 1 ∨ x.1 = 2) ∧ qs.length ≤ s.size ∧ ∀ t : ByteArray, matB s t = matP qs t.data.toList := by
 rcases comp_ref (s.size + 1) s.data.toList [] [] (by rw [data_length]; omega) with ⟨h1, h2⟩ | ⟨qs, ys, h1, h2, h3, h4, h5, h6⟩
 ·exact .inl ⟨ok_none _ _ _ h2, h1, h2⟩
 ·exact .inr ⟨qs, ys, h3, h1, h2, h4, by rw [data_length] at h5; exact h5, fun t => h6 _⟩
theorem right_any (s : ByteArray) (hs : s.size ≤ 1000) (w : World) :
  Calls Tryz.prog 53 #[.string s] w fun e w' => e = .returned (.bool (rightB s)) ∧ Below w.heap.size w w' := by
 rcases both s with ⟨h0, h1, _⟩ | ⟨qs, ys, h0, h1, _, _, _, _⟩
 ·rw [h0]
  have HC := Lib.hid (compile_any s (s.size + 1) _ h1 hs)
  go_enter Tryz.func53, Tryz.ntmps53
  go_wp2_with fail
  refine (HC.out _).mono ?_
  rintro e w1 ⟨⟨v', rfl⟩, hb⟩
  go_wp2
  go_ret
  exact ⟨rfl, hb⟩
 ·rw [h0]
  have HC := Lib.hid (compile_any s (s.size + 1) _ h1 hs)
  go_enter Tryz.func53, Tryz.ntmps53
  go_wp2_with fail
  refine (HC.out _).mono ?_
  rintro e w1 ⟨v', rfl, _, hb, _⟩
  go_wp2
  go_ret
  exact ⟨rfl, hb⟩
def codeB (s : ByteArray) : Int := if rightB s then 0 else 15
theorem match_any (s t : ByteArray) (hs : s.size ≤ 1000) (ht : t.size ≤ 1000000) (w : World) :
  Calls Tryz.prog 93 #[.string s, .string t] w fun e w' => e = .returned (.tuple #[.bool (rightB s && matB s t), .int .u8 (codeB s)]) ∧ Below w.heap.size w w' := by
 unfold codeB
 rcases both s with ⟨h0, h1, _⟩ | ⟨qs, ys, h0, h1, _, hK, hql, hm⟩
 ·rw [h0]
  have HC := Lib.hid (compile_any s (s.size + 1) _ h1 hs)
  clear h1 h0
  go_enter Tryz.func93, Tryz.ntmps93
  go_wp2_with fail
  refine (HC.out _).mono ?_
  rintro e w1 ⟨⟨v', rfl⟩, hb⟩
  go_wp2
  go_ret2
  exact ⟨rfl, hb⟩
 ·rw [h0, hm t, ← matchB_eq qs hK]
  have HC := Lib.hid (compile_any s (s.size + 1) _ h1 hs)
  clear h1 h0 hK hm
  go_enter Tryz.func93, Tryz.ntmps93
  go_wp2_with fail
  refine (HC.out _).mono ?_
  rintro e w1 ⟨v', rfl, hown, hb, hl⟩
  obtain ⟨A, cap, rfl, hLv⟩ := Lv.of_own hown hl
  have HM := Lib.hid (matches_any w1 A cap qs t (by omega) ht hLv)
  clear hown hl hLv
  go_wp2_with fail
  refine HM.out.mono ?_
  rintro e w2 ⟨rfl, hb2⟩
  have hB := below_then hb hb.size hb2
  go_wp2
  go_ret2
  exact ⟨rfl, hB⟩
def FarPost (s t : ByteArray) (w : World) (e : Ending) (w' : World) : Prop := ∃ b, e = .returned (.bool b) ∧ (b = false → s.size ≤ 60 ∧ t.size ≤ 60) ∧ Below w.heap.size w w'
end Go.Proofs.YtejdmofljifkbaaGreatDoor.Gl
namespace Go.Proofs.YtejdmofljifkbaaGreatDoor.P
open Go.RowKit Go.Proofs.YtejdmofljifkbaaGreatDoorW.PrintWords Go.Proofs.YtejdmofljifkbaaGreatDoorW.PrintLast Go.Proofs.YtejdmofljifkbaaGreatDoorW.PrintMore
set_option linter.unusedVariables false
abbrev Ru := S45
def badR (r : Ru) : Bool := !Gl.rightB r.f1
set_option maxRecDepth 100000 in
set_option maxHeartbeats 1600000 in
theorem right1_calls (p : Ru) (hp : p.f1.size ≤ 1000) (w : World) :
  Calls Tryz.prog 52 #[.agg #[.bool p.f0, .string p.f1]] w fun e w' => e = .returned (.bool (badR p)) ∧ Below w.heap.size w w' := by
 have HB := Aside0.mk (Below.refl w.heap.size w)
 have HG := Lib.hid (Gl.right_any p.f1 hp)
 go_enter Tryz.func52, Tryz.ntmps52
 go_wp2_with fail
 refine (HG.out _).mono ?_
 rintro e w' ⟨rfl, hb⟩
 have HB2 := Lib.hid hb
 clear hb
 go_wp2
 go_ret
 refine ⟨rfl, below_step ?_ HB2.out⟩
 repeat (first | exact Below.refl _ _ | apply below_alloc | apply below_drew1 | refine below_set ?_ (Nat.le_refl _))
def badRu : List Ru → Nat → Int
 | [], _ => -1
 | p :: t, i => if badR p = true then i else badRu t (i + 1)
theorem badAt_any : ∀ (l : List Ru) (i : Nat), decide (0 ≤ badRu l i) = l.any badR
 | [], i => rfl
 | p :: t, i => by
  simp only [badRu, List.any_cons]
  split
  ·rename_i h; simp [h]
  ·rename_i h; rw [badAt_any t (i + 1)]; simp [h]
set_option maxRecDepth 100000 in
set_option maxHeartbeats 1600000 in
theorem badAt_calls (A0 : Option Addr) (c0 : Nat) (l0 : List Ru) (w : World) (hr0 : Kd.C k45 w A0 l0.length l0) (hc0 : l0.length ≤ c0) (hl : l0.length < 4611686018427387904) (hz : ∀ p ∈ l0, p.f1.size ≤ 1000) :
  Calls Tryz.prog 97 #[.slice A0 l0.length c0, .func (.func 52) #[] #[]] w fun e w' => e = .returned (.int .i64 (badRu l0 0)) ∧ Below w.heap.size w w' := by
 have hu45 := Tryz.underlying45
 have HR0 := Aside0.mk hr0
 have HC0 := Aside0.mk hc0
 have HL0 := Aside0.mk hl
 have HZ := Aside0.mk hz
 clear hr0 hc0 hl hz
 obtain ⟨R, hR⟩ : ∃ R, badRu l0 0 = R := ⟨_, rfl⟩
 rw [hR]
 have HR := Lib.hid hR
 clear hR
 go_enter Tryz.func97, Tryz.ntmps97
 go_wp2
 go_loopg [8] (l0.length) (fun gk v8 w' => ∃ (x : Int), v8 = .int .i64 x ∧ Aside0 (∃ n : Nat, x = (n : Int) ∧ n + gk = l0.length ∧ badRu (l0.drop n) n = R) ∧ Aside0 (Below w.heap.size w w'))
 case atStart => exact ⟨0, rfl, ⟨0, rfl, by omega, HR.out⟩, ⟨Below.refl _ _⟩⟩
 case round =>
  clear HR
  obtain ⟨x, rfl, HN, HB⟩ := hrel
  cases gk with
  | zero =>
   obtain ⟨n, hx, hn, hk⟩ := HN.out
   have hlt : decide (x < (l0.length : Int)) = false := by
    simp; omega
   have hres : R = -1 := by
    rw [← hk, List.drop_eq_nil_of_le (by omega)]
    rfl
   subst hres
   clear hx hn hk HN
   go_wp2
   go_ret
   exact ⟨rfl, HB.out⟩
  | succ k =>
   obtain ⟨n, hx, hn, hk⟩ := HN.out
   have hi : n < l0.length := by omega
   have h0 : (0 : Int) ≤ x := by omega
   have h1 : x < (l0.length : Int) := by omega
   have hlt : decide (x < (l0.length : Int)) = true := decide_eq_true h1
   obtain ⟨ad, rfl, hx0, hx1⟩ := at_T45 HR0.out x h0 h1
   replace hx0 := (HB.out.cell (World.block_lt_of_cell? w _ hx0)).trans hx0
   replace hx1 := (HB.out.cell (World.block_lt_of_cell? w _ hx1)).trans hx1
   have hget : l0.drop n = rd_T45 l0 x :: l0.drop (n + 1) := by
    rw [List.drop_eq_getElem_cons hi]
    congr 1
    unfold rd_T45
    rw [hx, Int.toNat_natCast, List.getD_eq_getElem?_getD, List.getElem?_eq_getElem hi]
    rfl
   have HM := Lib.hid (show rd_T45 l0 x ∈ l0 from List.mem_of_mem_drop (by rw [hget]; exact List.mem_cons_self))
   rw [hget] at hk
   have hw : wrap64 (x + 1) = ((n + 1 : Nat) : Int) := by
    have := HL0.out
    rw [hx, show (n : Int) + 1 = ((n + 1 : Nat) : Int) by omega, w64n _ (by omega)]
   have HW := Lib.hid hw
   have HX := Lib.hid hx
   have HNN := Lib.hid hn
   have HKK := Lib.hid hk
   clear hget hw hx hn hk hi HN
   replace h0 := eq_true h0
   replace h1 := eq_true h1
   go_wp2_with fail
   refine (right1_calls _ (HZ.out _ HM.out) _).mono ?_
   rintro e w2 ⟨rfl, hb2⟩
   have HB2 := Lib.hid (below_step HB.out hb2)
   clear hb2
   cases hkn : badR (rd_T45 l0 x) with
   | true =>
    have hres : x = R := by
     rw [HX.out, ← HKK.out]
     simp only [badRu, hkn, if_true]
    have HRES := Lib.hid hres
    clear hres
    go_wp2
    go_ret
    exact ⟨by rw [HRES.out]; rfl, HB2.out⟩
   | false =>
    have HK2 : Aside0 (badRu (l0.drop (n + 1)) (n + 1) = R) := ⟨by rw [← HKK.out]; simp only [badRu, hkn]; rfl⟩
    go_wp2
    go_roundg k
    case measure => omega
    case rel => exact ⟨_, rfl, ⟨n + 1, HW.out, by have := HNN.out; omega, HK2.out⟩, ⟨HB2.out⟩⟩
theorem bad_calls (A0 : Option Addr) (c0 : Nat) (l0 : List Ru) (w : World) (hr0 : Kd.C k45 w A0 l0.length l0) (hc0 : l0.length ≤ c0) (hl : l0.length < 4611686018427387904) (hz : ∀ p ∈ l0, p.f1.size ≤ 1000) :
  Calls Tryz.prog 51 #[.slice A0 l0.length c0, .func (.func 52) #[] #[]] w fun e w' => e = .returned (.bool (l0.any badR)) ∧ Below w.heap.size w w' := by
 have HX := Lib.hid (badAt_calls A0 c0 l0 w hr0 hc0 hl hz)
 have HA := Lib.hid (badAt_any l0 0)
 clear hr0 hc0 hl hz
 go_enter Tryz.func51, Tryz.ntmps51
 go_wp2_with fail
 refine HX.out.mono ?_
 rintro e w2 ⟨rfl, hb2⟩
 have HB2 := Lib.hid hb2
 clear hb2
 go_wp2
 go_ret
 exact ⟨by rw [← HA.out]; rfl, HB2.out⟩
end Go.Proofs.YtejdmofljifkbaaGreatDoor.P
namespace Go.Proofs.YtejdmofljifkbaaGreatDoor.P
open Go.RowKit Go.Shelf Go.Proofs.YtejdmofljifkbaaGreatDoorW.PrintWords Go.Proofs.YtejdmofljifkbaaGreatDoorW.PrintLast Go.Proofs.YtejdmofljifkbaaGreatDoorW.PrintMore
set_option linter.unusedVariables false
attribute [local go_sem] Oper.semAt_some
def bkw (rs : List Ru) (k : Nat) : List (Int × Ru) := (List.range k).map fun (j : Nat) => ((rs.length : Int) - 1 - (j : Int), rd_T45 rs ((rs.length : Int) - 1 - (j : Int)))
theorem bkw_succ (rs : List Ru) (k : Nat) : bkw rs (k + 1) = bkw rs k ++ [((rs.length : Int) - 1 - (k : Int), rd_T45 rs ((rs.length : Int) - 1 - (k : Int)))] := by simp [bkw, List.range_succ]
theorem bkw_len (rs : List Ru) (k : Nat) : (bkw rs k).length = k := by simp [bkw]
abbrev ruV (x : Ru) : Value := .agg #[.bool x.f0, .string x.f1]
theorem rd_mem (rs : List Ru) (x : Int) (h0 : 0 ≤ x) (h1 : x < (rs.length : Int)) : (rd_T45 rs x) ∈ rs := by
 unfold rd_T45
 rw [List.getD_eq_getElem?_getD, List.getElem?_eq_getElem (by omega)]
 exact List.getElem_mem _
set_option maxRecDepth 100000 in
set_option maxHeartbeats 2000000 in
theorem back_in (F : Fence) (n : Nat) (hf : F.fn 124) (hro : F.round = none) (hn : 1 ≤ n) (l Bs : Nat) (A : Option Addr) (cap : Nat) (rs : List Ru) (w0 : World) (hr : Kd.C k45 w0 A rs.length rs) (hlen : rs.length ≤ 1000000)
  (hBs : w0.cell? ⟨Bs, 0, none⟩ = some (.slice A rs.length cap)) (J Jx : List (Int × Ru) → World → Prop)
  (hY : ∀ pre x W, J pre W → pre.length < rs.length → x.2 ∈ rs → YieldAt F (n - 1) Tryz.prog l #[.int .i64 x.1, ruV x.2] W fun e W' =>
   (e = .returned (.bool true) ∧ J (pre ++ [x]) W' ∧ Below w0.heap.size W W') ∨ (e = .returned (.bool false) ∧ Jx (pre ++ [x]) W'))
  (W : World) (hW : Below w0.heap.size w0 W) (h0 : J [] W) :
  CallsIn F n Tryz.prog 124 #[.func (.yield l) #[] #[], .pointer (some ⟨Bs, 0, none⟩)] W fun e W' => (∃ v, e = .returned v) ∧
   ((∃ ys, ys = bkw rs rs.length ∧ J ys W') ∨ (∃ pre, (∃ k, k ≤ rs.length ∧ pre = bkw rs k) ∧ Jx pre W')) := by
 have hu := Tryz.underlying45
 have HR := Aside0.mk hr
 have HBs := Aside0.mk hBs
 have HW := Aside0.mk hW
 have hBW : W.cell? ⟨Bs, 0, none⟩ = some (.slice A rs.length cap) := (hW.cell (World.block_lt_of_cell? w0 _ hBs)).trans hBs
 clear hr hBs hW
 refine callsIn_of_wp Tryz.func124 rfl hf ?_ hro
 simp only [Tryz.ntmps124, List.size_toArray, List.length_cons, List.length_nil, Nat.reduceAdd, Nat.reduceSub, Array.replicate_succ, Array.replicate_zero, List.push_toArray, List.append_toArray, List.nil_append, List.cons_append]
 gi_wp2
 gi_loopw [3] (fun i wr => ∃ x : Int, i = .int .i64 x ∧ Aside0 (∃ k : Nat, k ≤ rs.length ∧ x = (rs.length : Int) - 1 - (k : Int) ∧ J (bkw rs k) wr) ∧ Aside0 (Below w0.heap.size w0 wr)) (fun i _ => (intOf i + 1).toNat)
 case atStart => exact ⟨_, rfl, ⟨0, Nat.zero_le _, by simp, h0⟩, ⟨HW.out⟩⟩
 case round =>
  obtain ⟨x, rfl, HJ, HB⟩ := hrel
  obtain ⟨k, hk, hx, hJ⟩ := HJ.out
  have hb : wr.cell? ⟨Bs, 0, none⟩ = some (.slice A rs.length cap) := (HB.out.cell (World.block_lt_of_cell? w0 _ HBs.out)).trans HBs.out
  clear hBW
  by_cases hlt : k < rs.length
  ·have g0 : (0 : Int) ≤ x := by omega
   have g1 : x < (rs.length : Int) := by omega
   have hge : decide (0 ≤ x) = true := decide_eq_true g0
   obtain ⟨ad, rfl, hx0, hx1⟩ := at_T45 (Kd.C_below HR.out HB.out) x g0 g1
   obtain ⟨fn, tmps, assign, body, hy, hR⟩ := hY _ (x, rd_T45 rs x) wr hJ (by rw [bkw_len]; exact hlt) (rd_mem rs x g0 g1)
   dsimp only at hy
   have hw : wrap64 (x - 1) = (rs.length : Int) - 1 - ((k + 1 : Nat) : Int) := by rw [hx]; unfold wrap64; omega
   have HX := Lib.hid hx
   have HWR := Lib.hid hw
   have HK := Lib.hid hlt
   clear hx hw hlt hk HJ hJ
   replace g0 := eq_true g0
   replace g1 := eq_true g1
   gi_wp2
   refine hR.mono ?_
   rintro e W3 (⟨rfl, hJ3, hk3⟩ | ⟨rfl, hJx3⟩)
   ·gi_wp2
    go_roundw
    case rel => exact ⟨_, rfl, ⟨k + 1, HK.out, HWR.out, by rw [bkw_succ, ← HX.out]; exact hJ3⟩, ⟨HB.out.trans hk3⟩⟩
    case measure =>
     have h1 := HX.out
     have h2 := HWR.out
     have h3 := HK.out
     simp only [intOf]
     rw [h2, h1]
     omega
   ·gi_wp2
    refine bodyPost_ret (results_none rfl _ _ _) rfl ?_
    refine ⟨⟨_, rfl⟩, .inr ⟨_, ⟨k + 1, HK.out, ?_⟩, hJx3⟩⟩
    rw [bkw_succ, ← HX.out]
  ·obtain rfl : k = rs.length := by omega
   have hge : decide (0 ≤ x) = false := decide_eq_false (by omega)
   clear hx HJ
   gi_wp2
   go_end0
   exact ⟨⟨_, rfl⟩, .inl ⟨_, rfl, hJ⟩⟩
def mR (name : ByteArray) (r : Ru) : Bool := Gl.rightB r.f1 && Gl.matB r.f1 name
def takenL (all : Bool) (rs : List Ru) (name : ByteArray) : Bool := match rs.reverse.find? (mR name) with
 | some r => r.f0
 | none => all
theorem bkw_rev (rs : List Ru) : (bkw rs rs.length).map Prod.snd = rs.reverse := by
 apply List.ext_getElem
 ·simp [bkw]
 ·intro i h1 h2
  have hi : i < rs.length := by simpa [bkw] using h1
  simp only [bkw, List.map_map, List.getElem_map, List.getElem_range, Function.comp, List.getElem_reverse]
  unfold rd_T45
  rw [show ((rs.length : Int) - 1 - (i : Int)).toNat = rs.length - 1 - i by omega, List.getD_eq_getElem?_getD, List.getElem?_eq_getElem (by omega)]
  rfl
theorem taken_none (all : Bool) (rs : List Ru) (name : ByteArray) (h : ∀ p ∈ bkw rs rs.length, mR name p.2 = false) : takenL all rs name = all := by
 unfold takenL
 have : rs.reverse.find? (mR name) = none := by
  rw [← bkw_rev, List.find?_eq_none]
  intro x hx
  obtain ⟨p, hp, rfl⟩ := List.mem_map.1 hx
  rw [h p hp]
  simp
 rw [this]
theorem bkw_mem (rs : List Ru) (k : Nat) (hk : k ≤ rs.length) (p : Int × Ru) (hp : p ∈ bkw rs k) : p.2 ∈ rs := by
 simp only [bkw, List.mem_map, List.mem_range] at hp
 obtain ⟨j, hj, rfl⟩ := hp
 show rd_T45 rs _ ∈ rs
 unfold rd_T45
 rw [show ((rs.length : Int) - 1 - (j : Int)).toNat = rs.length - 1 - j by omega, List.getD_eq_getElem?_getD, List.getElem?_eq_getElem (by omega)]
 exact List.getElem_mem _
theorem bkw_prefix (rs : List Ru) (k : Nat) (hk : k ≤ rs.length) : ∃ t, bkw rs rs.length = bkw rs k ++ t := by
 obtain ⟨d, hd⟩ : ∃ d, rs.length = k + d := ⟨rs.length - k, by omega⟩
 refine ⟨(List.range d).map fun j => ((rs.length : Int) - 1 - ((k + j : Nat) : Int), rd_T45 rs ((rs.length : Int) - 1 - ((k + j : Nat) : Int))), ?_⟩
 unfold bkw
 rw [show (List.range rs.length) = List.range k ++ (List.range d).map (k + ·) by rw [hd, List.range_add]]
 rw [List.map_append, List.map_map]
 rfl
theorem taken_some (all : Bool) (rs : List Ru) (name : ByteArray) (k : Nat) (hk : k ≤ rs.length) (ini : List (Int × Ru)) (last : Int × Ru) (he : bkw rs k = ini ++ [last]) (h : ∀ p ∈ ini, mR name p.2 = false) (hl : mR name last.2 = true) : takenL all rs name = last.2.f0 := by
 unfold takenL
 obtain ⟨t, ht⟩ := bkw_prefix rs k hk
 have : rs.reverse.find? (mR name) = some last.2 := by
  rw [← bkw_rev, ht, he, List.map_append, List.map_append, List.append_assoc, List.find?_append]
  have h1 : (ini.map Prod.snd).find? (mR name) = none := by
   rw [List.find?_eq_none]
   intro x hx
   obtain ⟨p, hp, rfl⟩ := List.mem_map.1 hx
   rw [h p hp]
   simp
  rw [h1]
  simp [hl]
 rw [this]
end Go.Proofs.YtejdmofljifkbaaGreatDoor.P
namespace Go.Proofs.YtejdmofljifkbaaGreatDoor.P
open Go.RowKit Go.Shelf Go.Proofs.YtejdmofljifkbaaGreatDoorW.PrintWords Go.Proofs.YtejdmofljifkbaaGreatDoorW.PrintLast Go.Proofs.YtejdmofljifkbaaGreatDoorW.PrintMore
set_option linter.unusedVariables false
attribute [local go_sem] Oper.semAt_some
theorem backward_in (a : Option Addr) (len cap : Nat) (n : Nat) (w : World) :
  CallsIn Fence.wide n Tryz.prog 92 #[.slice a len cap] w fun e w' => e = .returned (.func (.func 124) #[] #[.pointer (some ⟨w.heap.size, 0, none⟩)]) ∧ w' = w.alloc (.cells #[.slice a len cap] 41) := by
 refine callsIn_of_wp Tryz.func92 rfl trivial ?_ rfl
 simp only [Tryz.ntmps92, List.size_toArray, List.length_cons, List.length_nil, Nat.reduceAdd, Nat.reduceSub, Array.replicate_succ, Array.replicate_zero, List.push_toArray, List.append_toArray, List.nil_append, List.cons_append]
 gi_wp2
 go_ret
 exact ⟨rfl, rfl⟩
theorem blk_own {β : Type} (B : Nat) (t : TypeId) (f : β → Array Value) : Own (fun s W => W.heap[B]? = some (.cells (f s) t (0, 0))) := fun s X Y row hs hg hrow => by
 refine (hg.block B (Array.getElem?_eq_some_iff.1 hs).1 (fun e => ?_)).trans hs
 obtain ⟨o, ho, hc⟩ := hrow B e.symm
 rw [hs] at ho
 cases ho
 cases hc
theorem keeps_below {B : Nat} {W W' : World} (h : Below W.heap.size W W') : KeepsFrom B W W' := ⟨h.size, fun k o _ hk _ => (h.block k (Array.getElem?_eq_some_iff.1 hk).1).trans hk⟩
def cl (r : Ru) : Ru := if r.f1.size ≤ 1000 then r else ⟨r.f0, ByteArray.empty⟩
theorem cl_of {r : Ru} (h : r.f1.size ≤ 1000) : cl r = r := by simp [cl, h]
theorem cl_size (r : Ru) : (cl r).f1.size ≤ 1000 := by
 unfold cl
 split
 ·assumption
 ·exact Nat.zero_le _
set_option maxRecDepth 100000 in
set_option maxHeartbeats 3200000 in
theorem taken_calls (all : Bool) (A : Option Addr) (cap : Nat) (rs : List Ru) (st : Int) (px name : ByteArray) (w : World) (hr : Kd.C k45 w A rs.length rs) (hlen : rs.length ≤ 1000000)
  (hz : ∀ r ∈ rs, r.f1.size ≤ 1000) (hnm : name.size ≤ 1000000) :
  Calls Tryz.prog 46 #[.agg #[.bool all, .slice A rs.length cap, .int .i64 st, .string px], .string name] w fun e W' => e = .returned (.bool (takenL all rs name)) ∧ Below w.heap.size w W' := by
 refine (callsIn_wide (n := 6)).1 ?_
 refine callsIn_of_wp_marks Tryz.func46 rfl trivial ?_ rfl
 simp only [Tryz.ntmps46, List.size_toArray, List.length_cons, List.length_nil, Nat.reduceAdd, Nat.reduceSub, Array.replicate_succ, Array.replicate_zero, List.push_toArray, List.append_toArray, List.nil_append, List.cons_append]
 gi_wp2_with (refine ⟨trivial, ?_⟩; gi_at_call 92; refine (backward_in _ _ _ _ _).mono ?_; rintro e w' ⟨rfl, rfl⟩)
 have bP := heap_alloc_new w (.cells #[.bool all, .slice A rs.length cap, .int .i64 st, .string px] 43)
 have bN := heap_alloc_new (w.alloc (.cells #[.bool all, .slice A rs.length cap, .int .i64 st, .string px] 43)) (.cells #[.string name] 9)
 have bR := heap_alloc_new ((w.alloc (.cells #[.bool all, .slice A rs.length cap, .int .i64 st, .string px] 43)).alloc (.cells #[.string name] 9)) (.cells #[.bool false] 4)
 have bB := heap_alloc_new (((w.alloc (.cells #[.bool all, .slice A rs.length cap, .int .i64 st, .string px] 43)).alloc (.cells #[.string name] 9)).alloc (.cells #[.bool false] 4)) (.cells #[.slice A rs.length cap] 41)
 have hB0 : Below w.heap.size w ((((w.alloc (.cells #[.bool all, .slice A rs.length cap, .int .i64 st, .string px] 43)).alloc (.cells #[.string name] 9)).alloc (.cells #[.bool false] 4)).alloc (.cells #[.slice A rs.length cap] 41)) :=
  ((((Below.refl _ w).alloc (Nat.le_refl _) _).alloc (by simp) _).alloc (by first | (simp; done) | (simp; omega)) _).alloc (by first | (simp; done) | (simp; omega)) _
 have hsz : ((((w.alloc (.cells #[.bool all, .slice A rs.length cap, .int .i64 st, .string px] 43)).alloc (.cells #[.string name] 9)).alloc (.cells #[.bool false] 4)).alloc (.cells #[.slice A rs.length cap] 41)).heap.size = w.heap.size + 4 := by simp
 simp only [World.size_alloc] at bN bR bB
 have bP' := (Below.heap_alloc _ (.cells #[.slice A rs.length cap] 41) w.heap.size (by first | (simp; done) | (simp; omega))).trans ((Below.heap_alloc _ (.cells #[.bool false] 4) w.heap.size (by first | (simp; done) | (simp; omega))).trans ((Below.heap_alloc _ (.cells #[.string name] 9) w.heap.size (by simp)).trans bP))
 have bN' := (Below.heap_alloc _ (.cells #[.slice A rs.length cap] 41) (w.heap.size + 1) (by first | (simp; done) | (simp; omega))).trans ((Below.heap_alloc _ (.cells #[.bool false] 4) (w.heap.size + 1) (by simp)).trans bN)
 have bR' := (Below.heap_alloc _ (.cells #[.slice A rs.length cap] 41) (w.heap.size + 1 + 1) (by simp)).trans bR
 clear bP bN bR
 obtain ⟨W0, hW0⟩ : ∃ W0, (((w.alloc (.cells #[.bool all, .slice A rs.length cap, .int .i64 st, .string px] 43)).alloc (.cells #[.string name] 9)).alloc (.cells #[.bool false] 4)).alloc (.cells #[.slice A rs.length cap] 41) = W0 := ⟨_, rfl⟩
 obtain ⟨H, hH⟩ : ∃ H, w.heap.size = H := ⟨_, rfl⟩
 rw [hW0] at bP' bN' bR' bB hB0 hsz ⊢
 rw [hH] at bP' bN' bR' bB hsz ⊢
 clear hW0
 have hrW := Kd.C_below hr hB0
 refine wpIn_rangeFunc_ownH rfl (by omega) (gf := 124) (lb := #[.pointer (some ⟨H + 1 + 1 + 1, 0, none⟩)]) rfl trivial (enters_of Tryz.func124 (by kernel_rfl) rfl)
  (α := Int × Ru) (encs := fun x => #[.int .i64 x.1, ruV (cl x.2)]) (Kp := Below W0.heap.size) (S := fun ys => ys = bkw rs rs.length) (Sp := fun pre => ∃ k, k ≤ rs.length ∧ pre = bkw rs k) (N := rs.length) (w0 := W0)
  (fun l J Jx W hW _ _ hY h0 => back_in Fence.wide 5 trivial rfl (by omega) l (H + 1 + 1 + 1) A cap rs W0 hrW hlen ((cell_of_row _ _ _ _ _ _ bB).trans rfl) J Jx (fun pre x W h1 h2 h3 => by have := hY pre x W h1 h2; dsimp only at this; rwa [cl_of (hz _ h3)] at this) W hW h0)
  (fun h k => h.trans k) (belowK_b (Nat.le_refl _)) (Below.refl _ _) (fun _ => rfl)
  (fun pre W => (∀ p ∈ pre, mR name (cl p.2) = false) ∧ Below W0.heap.size W0 W)
  (fun c pre W => ((c = .ret ∧ ∃ ini last, pre = ini ++ [last] ∧ (∀ p ∈ ini, mR name (cl p.2) = false) ∧ mR name (cl last.2) = true) ∧ (∃ ini last, pre = ini ++ [last] ∧ W.heap[H + 1 + 1]? = some (.cells #[.bool (cl last.2).f0] 4 (0, 0)))) ∧ Below H w W)
  (OwnFrom.and (ownFrom_pure _ _) (ownFrom_below (Nat.le_refl _) (Nat.le_refl _)))
  (fun c => OwnFrom.and (OwnFrom.and (ownFrom_pure _ _) (fun s X Y row hs hg hr => by
   obtain ⟨ini, last, e1, e2⟩ := hs
   exact ⟨ini, last, e1, blk_own (H + 1 + 1) 4 (fun (_ : Unit) => #[.bool (cl last.2).f0]) () X Y row e2 hg (fun r e => (hr r e).2)⟩)) (ownFrom_below (by omega) (by omega)))
  ⟨(fun p hp => nomatch hp), Below.refl _ _⟩
  (fun x a' W => ∃ Bx, H + 1 + 1 + 1 < Bx ∧ W.heap[Bx]? = some (.cells #[.bool (cl x.2).f0, .string (cl x.2).f1] 45 (0, 0)) ∧ a' = { tmps := #[.agg #[.bool all, .slice A rs.length cap, .int .i64 st, .string px], .string name, .pointer (some ⟨H, 0, none⟩), .pointer (some ⟨H + 1, 0, none⟩), .pointer (some ⟨H + 1 + 1, 0, none⟩), undef, .pointer (some ⟨Bx, 0, none⟩), undef, undef, .pointer (some ⟨H, 1, none⟩), .slice A rs.length cap, .func (.func 124) #[] #[.pointer (some ⟨H + 1 + 1 + 1, 0, none⟩)], .int .i64 x.1, ruV (cl x.2), undef, undef, undef, undef, undef, undef, undef, undef, undef, undef, undef, undef], defers := [] })
  (fun x a' _ X Y row hs hg hr => by obtain ⟨Bx, h1, h2, h3⟩ := hs; exact ⟨Bx, h1, blk_own Bx 45 (fun (_ : Unit) => #[.bool (cl x.2).f0, .string (cl x.2).f1]) () X Y row h2 hg (fun r e => (hr r e).2), h3⟩)
  ?assign ?body ?done ?stop
 case assign =>
  rintro l pre x W K ⟨i4, i5⟩ hK
  clear bP' bN' bR' bB
  gi_wp2
  have hsW := i5.size
  refine hK _ _ ((KeepsOthers.alloc _ _).from _) ((Below.refl _ W).alloc hsW _) ⟨i4, i5.alloc hsW _⟩ ⟨W.heap.size, by omega, heap_alloc_new W _, rfl⟩
 case body =>
  rintro l pre x a' W hl ⟨r, hr'⟩ ⟨i4, i5⟩ ⟨Bx, hBx, bX, rfl⟩ hlt
  have hsW := i5.size
  have hBxl := (Array.getElem?_eq_some_iff.1 bX).1
  have cN : W.cell? ⟨H + 1, 0, none⟩ = some (.string name) := (cell_of_row _ _ 0 _ _ _ ((i5.block _ (by omega)).trans bN')).trans rfl
  have cX1 : W.cell? ⟨Bx, 1, none⟩ = some (.string (cl x.2).f1) := (cell_of_row _ _ 1 _ _ _ bX).trans rfl
  have cX0 : W.cell? ⟨Bx, 0, none⟩ = some (.bool (cl x.2).f0) := (cell_of_row _ _ 0 _ _ _ bX).trans rfl
  have HR := Aside0.mk ((i5.block _ (show H + 1 + 1 < W0.heap.size by omega)).trans bR')
  have HX := Aside0.mk cX0
  have HI4 := Aside0.mk i4
  have HI5 := Aside0.mk i5
  have HB0 := Aside0.mk hB0
  have hzx := cl_size x.2
  clear bP' bN' bR' bB hr hrW i4 i5 hB0 bX cX0
  gi_wp2_with (refine ⟨trivial, ?_⟩; gi_at_call 93; refine (CallsIn.inRound l (callsIn_wide.2 (Gl.match_any (cl x.2).f1 name hzx hnm W))).mono ?_; rintro e w' ⟨rfl, hBw⟩; have cX0 : w'.cell? ⟨Bx, 0, none⟩ = some (.bool (cl x.2).f0) := (hBw.cell (p := ⟨Bx, 0, none⟩) hBxl).trans HX.out; have hRw : w'.heap[H + 1 + 1]? = some (.cells #[.bool false] 4 (0, 0)) := (hBw.block _ (by omega)).trans HR.out; have fR : w'.frozen? ⟨H + 1 + 1, 0, none⟩ = false := (by simp [World.frozen?, hRw]); have cR : w'.cell? ⟨H + 1 + 1, 0, none⟩ = some (.bool false) := (cell_of_row _ _ 0 _ _ _ hRw).trans rfl; have HRw := Aside0.mk hRw; clear hRw)
  ·rename_i hc
   have hRw := HRw.out
   have hm : mR name (cl x.2) = true := by simpa [mR] using hc
   have hBH : Below H w W := by rw [← hH]; exact HB0.out.trans (HI5.out.mono (by omega))
   have hBH2 : Below H w w' := hBH.trans (hBw.mono (by omega))
   exact ⟨((keeps_below hBw).trans ((KeepsOthers.setCell _ _ _).from _)), ⟨⟨rfl, pre, x, rfl, HI4.out, hm⟩, pre, x, rfl, Boxed.set _ hRw⟩, hBH2.setCell (p := ⟨H + 1 + 1, 0, none⟩) (by show H ≤ H + 1 + 1; omega) _⟩
  ·rename_i hc
   have hm : mR name (cl x.2) = false := by
    unfold mR
    rcases hc with h | h <;> simp [h]
   refine ⟨keeps_below hBw, hBw.mono hsW, fun p hp => ?_, HI5.out.trans (hBw.mono hsW)⟩
   rcases List.mem_append.1 hp with h | h
   ·exact HI4.out p h
   ·simp at h
    subst h
    exact hm
 case done =>
  rintro D ys W hD rfl ⟨i4, i5⟩ hK
  have cP : W.cell? ⟨H, 0, none⟩ = some (.bool all) := (cell_of_row _ _ 0 _ _ _ ((i5.block _ (by omega)).trans bP')).trans rfl
  have hRw := (i5.block _ (show H + 1 + 1 < W0.heap.size by omega)).trans bR'
  have fR : W.frozen? ⟨H + 1 + 1, 0, none⟩ = false := by simp [World.frozen?, hRw]
  have cR : W.cell? ⟨H + 1 + 1, 0, none⟩ = some (.bool false) := (cell_of_row _ _ 0 _ _ _ hRw).trans rfl
  have HRw := Aside0.mk hRw
  clear hRw bP' bN' bR' bB hrW
  gi_wp2
  have hK' := (KeepsOthers.setCell W ⟨H + 1 + 1, 0, none⟩ (.bool all)).same D _ hK rfl
  refine ⟨by simp, .inl ⟨_, _, rfl, run_takeDeferred hK', ?_⟩⟩
  have hc5 := cell_kept (World.cell?_setCell_same' W ⟨H + 1 + 1, 0, none⟩ (.bool all) (by rw [cR]; rfl)) (grownBy_putObj' _ D (.deferred none)) (fun r e => by cases e; exact ⟨_, hK', rfl⟩)
  have hT : takenL all rs name = all := taken_none all rs name fun p hp => by
   have h := i4 p hp
   rwa [cl_of (hz _ (bkw_mem rs _ (Nat.le_refl _) p hp))] at h
  have hBH : Below w.heap.size w W := hB0.trans (i5.mono (by omega))
  refine ⟨.bool all, ?_, by rw [hT], (hBH.setCell (p := ⟨H + 1 + 1, 0, none⟩) (by show w.heap.size ≤ H + 1 + 1; omega) _).trans (belowK_b (w := w) (Nat.le_refl _) _ D _ _ (by omega) hK' rfl rfl)⟩
  simp [results, Tryz.f46, go_sem, hc5]
 case stop =>
  rintro D c pre W hD ⟨k, hk, rfl⟩ ⟨⟨⟨rfl, ini, last, e1, e2, e3⟩, ini2, last2, e4, e5⟩, i5⟩ hK
  obtain ⟨rfl, h5⟩ := List.append_inj' (e1.symm.trans e4) rfl
  obtain rfl : last = last2 := by simpa using h5
  gi_wp2
  have cR : W.cell? ⟨H + 1 + 1, 0, none⟩ = some (.bool (cl last.2).f0) := (cell_of_row _ _ 0 _ _ _ e5).trans rfl
  have hc5 := cell_kept cR (grownBy_putObj' _ D (.deferred none)) (fun r e => by cases e; exact ⟨_, hK, rfl⟩)
  have hcl : ∀ p ∈ bkw rs k, cl p.2 = p.2 := fun p hp => cl_of (hz _ (bkw_mem rs _ hk p hp))
  have hcl0 : cl last.2 = last.2 := hcl last (by rw [e1]; simp)
  rw [hcl0] at e3 hc5
  have hT : takenL all rs name = last.2.f0 := taken_some all rs name k hk ini last e1 (fun p hp => by
   have h := e2 p hp
   rwa [hcl p (by rw [e1]; simp [hp])] at h) e3
  refine ⟨by simp, .inl ⟨_, _, rfl, run_takeDeferred hK, ?_⟩⟩
  subst hH
  refine ⟨.bool last.2.f0, ?_, by rw [hT], i5.trans (belowK_b (w := w) (Nat.le_refl _) _ D _ _ (by omega) hK rfl rfl)⟩
  simp [results, Tryz.f46, go_sem, hc5]
end Go.Proofs.YtejdmofljifkbaaGreatDoor.P
namespace Go.Proofs.YtejdmofljifkbaaGreatDoor.P
open Go.RowKit Go.Shelf Go.Proofs.YtejdmofljifkbaaGreatDoorW.PrintWords Go.Proofs.YtejdmofljifkbaaGreatDoorW.PrintLast Go.Proofs.YtejdmofljifkbaaGreatDoorW.PrintMore
set_option linter.unusedVariables false
attribute [local go_sem] Oper.semAt_some
def rightP (rs : List Ru) (st : Int) (px : ByteArray) : Bool := !(decide (st < 0) || decide (1000 < px.size) || decide (0 ≤ Lib.indexByte px.data.toList 0) || Lib.hasSuffix px.data.toList [47]) && !(rs.any badR)
set_option maxRecDepth 100000 in
set_option maxHeartbeats 3200000 in
theorem pright_calls (all : Bool) (A : Option Addr) (cap : Nat) (rs : List Ru) (st : Int) (px : ByteArray) (w : World) (hr : Kd.C k45 w A rs.length rs) (hcap : rs.length ≤ cap) (hlen : rs.length ≤ 1000000)
  (hz : ∀ r ∈ rs, r.f1.size ≤ 1000) (hpx : px.size ≤ 1000000) :
  Calls Tryz.prog 21 #[.agg #[.bool all, .slice A rs.length cap, .int .i64 st, .string px]] w fun e W' => e = .returned (.bool (rightP rs st px)) ∧ Below w.heap.size w W' := by
 have HR := Lib.hid hr
 have HC := Lib.hid hcap
 have HL := Lib.hid hlen
 have HZ := Lib.hid hz
 clear hr hcap hlen hz
 obtain ⟨R, hR⟩ : ∃ R, rightP rs st px = R := ⟨_, rfl⟩
 rw [hR]
 have HQ := Lib.hid hR
 clear hR
 go_enter Tryz.func21, Tryz.ntmps21
 have hb0 : Below w.heap.size w (w.alloc (.cells #[.bool all, .slice A rs.length cap, .int .i64 st, .string px] 43)) := (Below.refl _ w).alloc (Nat.le_refl _) _
 have HB0 := Lib.hid hb0
 have HK := Lib.hid (Kd.C_below HR.out hb0)
 clear hb0
 cases hb1 : decide (st < 0) with
 | true =>
  have hq : R = false := by rw [← HQ.out]; simp [rightP, hb1]
  subst hq
  go_wp2_with (first
   | (go_at_call 49; refine (Tryz.strings_Contains_one px 0 _).mono ?_; rintro e w' ⟨rfl, rfl⟩)
   | (go_at_call 50; refine (Tryz.strings_HasSuffix px ⟨#[47]⟩ _ (by omega)).mono ?_; rintro e w' ⟨rfl, rfl⟩)
   | (go_at_call 51; refine (bad_calls A cap rs _ HK.out HC.out (by have := HL.out; omega) HZ.out).mono ?_; rintro e w' ⟨rfl, hb⟩; have HB1 := Lib.hid hb; clear hb))
  go_ret
  exact ⟨rfl, HB0.out⟩
 | false =>
  cases hb2 : decide (1000 < (px.size : Int)) with
  | true =>
   have hq : R = false := by rw [← HQ.out]; simp [rightP]; intro _ _; simp at hb2; omega
   subst hq
   go_wp2_with (first
    | (go_at_call 49; refine (Tryz.strings_Contains_one px 0 _).mono ?_; rintro e w' ⟨rfl, rfl⟩)
    | (go_at_call 50; refine (Tryz.strings_HasSuffix px ⟨#[47]⟩ _ (by omega)).mono ?_; rintro e w' ⟨rfl, rfl⟩)
    | (go_at_call 51; refine (bad_calls A cap rs _ HK.out HC.out (by have := HL.out; omega) HZ.out).mono ?_; rintro e w' ⟨rfl, hb⟩; have HB1 := Lib.hid hb; clear hb))
   go_ret
   exact ⟨rfl, HB0.out⟩
  | false =>
   cases hb3 : decide (0 ≤ Lib.indexByte px.data.toList 0) with
   | true =>
    have hq : R = false := by rw [← HQ.out]; simp [rightP, hb3]
    subst hq
    go_wp2_with (first
     | (go_at_call 49; refine (Tryz.strings_Contains_one px 0 _).mono ?_; rintro e w' ⟨rfl, rfl⟩)
     | (go_at_call 50; refine (Tryz.strings_HasSuffix px ⟨#[47]⟩ _ (by omega)).mono ?_; rintro e w' ⟨rfl, rfl⟩)
     | (go_at_call 51; refine (bad_calls A cap rs _ HK.out HC.out (by have := HL.out; omega) HZ.out).mono ?_; rintro e w' ⟨rfl, hb⟩; have HB1 := Lib.hid hb; clear hb))
    go_ret
    exact ⟨rfl, HB0.out⟩
   | false =>
    cases hb4 : Lib.hasSuffix px.data.toList [47] with
    | true =>
     have hq : R = false := by rw [← HQ.out]; simp [rightP, hb4]
     subst hq
     go_wp2_with (first
      | (go_at_call 49; refine (Tryz.strings_Contains_one px 0 _).mono ?_; rintro e w' ⟨rfl, rfl⟩)
      | (go_at_call 50; refine (Tryz.strings_HasSuffix px ⟨#[47]⟩ _ (by omega)).mono ?_; rintro e w' ⟨rfl, rfl⟩)
      | (go_at_call 51; refine (bad_calls A cap rs _ HK.out HC.out (by have := HL.out; omega) HZ.out).mono ?_; rintro e w' ⟨rfl, hb⟩; have HB1 := Lib.hid hb; clear hb))
     go_ret
     exact ⟨rfl, HB0.out⟩
    | false =>
     have hq : R = !(rs.any badR) := by
      rw [← HQ.out]
      have : decide (1000 < px.size) = false := by simp at hb2 ⊢; omega
      simp only [rightP, hb1, this, hb3, hb4]
      rfl
     subst hq
     go_wp2_with (first
      | (go_at_call 49; refine (Tryz.strings_Contains_one px 0 _).mono ?_; rintro e w' ⟨rfl, rfl⟩)
      | (go_at_call 50; refine (Tryz.strings_HasSuffix px ⟨#[47]⟩ _ (by omega)).mono ?_; rintro e w' ⟨rfl, rfl⟩)
      | (go_at_call 51; refine (bad_calls A cap rs _ HK.out HC.out (by have := HL.out; omega) HZ.out).mono ?_; rintro e w' ⟨rfl, hb⟩; have HB1 := Lib.hid hb; clear hb))
     go_ret
     exact ⟨rfl, below_step HB0.out HB1.out⟩
end Go.Proofs.YtejdmofljifkbaaGreatDoor.P
namespace Go.Proofs.YtejdmofljifkbaaGreatDoor.P
open Go.RowKit Go.Shelf Go.Proofs.YtejdmofljifkbaaGreatDoorW.PrintWords Go.Proofs.YtejdmofljifkbaaGreatDoorW.PrintLast Go.Proofs.YtejdmofljifkbaaGreatDoorW.PrintMore
set_option linter.unusedVariables false
attribute [local go_sem] Oper.semAt_some
def tkc (b : Bool) : Int := match b with
 | true => 0
 | false => 15
set_option maxRecDepth 100000 in
set_option maxHeartbeats 3200000 in
theorem ptaken_calls (all : Bool) (A : Option Addr) (cap : Nat) (rs : List Ru) (st : Int) (px name : ByteArray) (w : World) (hr : Kd.C k45 w A rs.length rs) (hcap : rs.length ≤ cap) (hlen : rs.length ≤ 1000000)
  (hz : ∀ r ∈ rs, r.f1.size ≤ 1000) (hpx : px.size ≤ 1000000) (hnm : name.size ≤ 1000000) :
  Calls Tryz.prog 19 #[.agg #[.bool all, .slice A rs.length cap, .int .i64 st, .string px], .string name] w fun e W' => e = .returned (.tuple #[.bool (rightP rs st px && takenL all rs name), .int .u8 (tkc (rightP rs st px))]) ∧ Below w.heap.size w W' := by
 have HR := Lib.hid hr
 have HC := Lib.hid hcap
 have HL := Lib.hid hlen
 have HZ := Lib.hid hz
 clear hr hcap hlen hz
 obtain ⟨R, hR⟩ : ∃ R, rightP rs st px = R := ⟨_, rfl⟩
 obtain ⟨T, hT⟩ : ∃ T, takenL all rs name = T := ⟨_, rfl⟩
 rw [hR, hT]
 have HQ := Lib.hid hR
 have HT := Lib.hid hT
 clear hR hT
 go_enter Tryz.func19, Tryz.ntmps19
 go_wp2_with (first
  | (go_at_call 21; refine (pright_calls all A cap rs st px _ (Kd.C_below HR.out ((Below.refl _ w).alloc (Nat.le_refl _) _)) HC.out HL.out HZ.out hpx).mono ?_; rw [HQ.out]; rintro e w' ⟨rfl, hb⟩; have HB1 := Lib.hid (below_step ((Below.refl _ w).alloc (Nat.le_refl _) _) hb); have HB2 := Lib.hid hb; have bP : w'.heap[w.heap.size]? = some (.cells #[.bool all, .slice A rs.length cap, .int .i64 st, .string px] 43 (0, 0)) := (hb.block _ (by simp)).trans (heap_alloc_new w _); have c0 : w'.cell? ⟨w.heap.size, 0, none⟩ = some (.bool all) := (cell_of_row _ _ 0 _ _ _ bP).trans rfl; have c1 : w'.cell? ⟨w.heap.size, 1, none⟩ = some (.slice A rs.length cap) := (cell_of_row _ _ 1 _ _ _ bP).trans rfl; have c2 : w'.cell? ⟨w.heap.size, 2, none⟩ = some (.int .i64 st) := (cell_of_row _ _ 2 _ _ _ bP).trans rfl; have c3 : w'.cell? ⟨w.heap.size, 3, none⟩ = some (.string px) := (cell_of_row _ _ 3 _ _ _ bP).trans rfl; clear bP hb; cases hRc : R))
 ·go_ret2
  exact ⟨by simp [tkc, hRc], HB1.out⟩
 ·refine (taken_calls all A cap rs st px name _ (Kd.C_below HR.out HB1.out) HL.out HZ.out hnm).mono ?_
  rw [HT.out]
  rintro e w2 ⟨rfl, hb2⟩
  have HB3 := Lib.hid (below_step HB1.out hb2)
  clear hb2
  go_wp2
  go_ret2
  exact ⟨by simp [tkc, hRc], HB3.out⟩
end Go.Proofs.YtejdmofljifkbaaGreatDoor.P
namespace Go.Proofs.YtejdmofljifkbaaGreatDoor.P
open Go.RowKit Go.Shelf Go.Proofs.YtejdmofljifkbaaGreatDoorW.PrintWords Go.Proofs.YtejdmofljifkbaaGreatDoorW.PrintLast Go.Proofs.YtejdmofljifkbaaGreatDoorW.PrintMore
set_option linter.unusedVariables false
attribute [local go_sem] Oper.semAt_some
def sp : List UInt8 → List (List UInt8)
 | [] => [[]]
 | c :: t => if c = 47 then [] :: sp t else match sp t with
  | [] => [[c]]
  | h :: r => (c :: h) :: r
theorem sp_some : ∀ l, ∃ h r, sp l = h :: r
 | [] => ⟨_, _, rfl⟩
 | c :: t => by
  unfold sp
  split
  ·exact ⟨_, _, rfl⟩
  ·obtain ⟨h, r, e⟩ := sp_some t
   rw [e]
   exact ⟨_, _, rfl⟩
theorem sp_neg : ∀ l, Lib.indexByte l 47 < 0 → sp l = [l]
 | [], _ => rfl
 | c :: t, h => by
  have hg := Lib.indexByte_ge t 47
  have e : Lib.indexByte (c :: t) 47 = if (c == 47) = true then 0 else if (Lib.indexByte t 47 == -1) = true then -1 else Lib.indexByte t 47 + 1 := rfl
  rw [e] at h
  by_cases hc : c = 47
  ·subst hc; simp at h
  ·have hc' : (c == 47) = false := by simpa using hc
   rw [hc'] at h
   simp only [Bool.false_eq_true, if_false] at h
   have ht : Lib.indexByte t 47 < 0 := by
    split at h
    ·rename_i h1; simp at h1; omega
    ·omega
   unfold sp
   rw [if_neg hc, sp_neg t ht]
theorem sp_pos : ∀ l, 0 ≤ Lib.indexByte l 47 → sp l = l.take (Lib.indexByte l 47).toNat :: sp (l.drop ((Lib.indexByte l 47).toNat + 1))
 | [], h => by simp [Lib.indexByte] at h
 | c :: t, h => by
  have hg := Lib.indexByte_ge t 47
  have e : Lib.indexByte (c :: t) 47 = if (c == 47) = true then 0 else if (Lib.indexByte t 47 == -1) = true then -1 else Lib.indexByte t 47 + 1 := rfl
  by_cases hc : c = 47
  ·subst hc
   rw [e]
   simp [sp]
  ·have hc' : (c == 47) = false := by simpa using hc
   rw [hc'] at e
   simp only [Bool.false_eq_true, if_false] at e
   have ht : 0 ≤ Lib.indexByte t 47 := by
    rw [e] at h
    by_cases h1 : (Lib.indexByte t 47 == -1) = true
    ·rw [if_pos h1] at h
     exact absurd h (by decide)
    ·rw [if_neg h1] at h
     have h2 : ¬ Lib.indexByte t 47 = -1 := by simpa using h1
     omega
   have e1 : Lib.indexByte (c :: t) 47 = Lib.indexByte t 47 + 1 := by
    rw [e, if_neg]
    simp
    omega
   rw [e1]
   rw [show (Lib.indexByte t 47 + 1).toNat = (Lib.indexByte t 47).toNat + 1 by omega]
   rw [List.take_succ_cons, List.drop_succ_cons]
   conv => lhs; unfold sp
   rw [if_neg hc, sp_pos t ht]
theorem index_lt : ∀ l, 0 ≤ Lib.indexByte l 47 → (Lib.indexByte l 47).toNat < l.length
 | [], h => by simp [Lib.indexByte] at h
 | c :: t, h => by
  have hg := Lib.indexByte_ge t 47
  have e : Lib.indexByte (c :: t) 47 = if (c == 47) = true then 0 else if (Lib.indexByte t 47 == -1) = true then -1 else Lib.indexByte t 47 + 1 := rfl
  rw [e] at h ⊢
  simp only [List.length_cons]
  split
  ·simp
  ·rename_i h1
   rw [if_neg h1] at h
   split
   ·simp
   ·rename_i h2
    rw [if_neg h2] at h
    have h2' : ¬ Lib.indexByte t 47 = -1 := by simpa using h2
    have ih := index_lt t (by omega)
    omega
theorem ext_take (r : ByteArray) (i : Nat) : r.extract 0 i = tx (r.data.toList.take i) := by
 apply ByteArray.ext
 apply Array.ext'
 rw [ByteArray.data_extract, Array.toList_extract]
 show _ = r.data.toList.take i
 rw [List.extract_eq_take_drop]
 rfl
theorem ext_drop (r : ByteArray) (i : Nat) : (r.extract i r.size).data.toList = r.data.toList.drop i := by
 rw [ByteArray.data_extract, Array.toList_extract, List.extract_eq_take_drop]
 refine List.take_of_length_le ?_
 rw [List.length_drop, data_length]
 exact Nat.le_refl _
theorem sp_len : ∀ l : List UInt8, (sp l).length ≤ l.length + 1
 | [] => by simp [sp]
 | c :: t => by
  have ih := sp_len t
  unfold sp
  split
  ·simp; omega
  ·obtain ⟨h, r, e⟩ := sp_some t
   rw [e] at ih ⊢
   simp at ih ⊢
   omega
theorem pre_len {pre : List ByteArray} {l m : List UInt8} (h : pre ++ (sp l).map tx = (sp m).map tx) : pre.length ≤ m.length := by
 have h1 := congrArg List.length h
 have h2 := sp_len m
 obtain ⟨a, b, e⟩ := sp_some l
 rw [e] at h1
 simp at h1
 omega
def restW (Bs : Nat) (W : World) : Nat := match W.cell? ⟨Bs, 0, none⟩ with
 | some (.string t) => t.size
 | _ => 0
set_option maxRecDepth 100000 in
set_option maxHeartbeats 2000000 in
theorem split_in (n : Nat) (hn : 1 ≤ n) (l Bp Bs Bv : Nat) (s : ByteArray) (hs : s.size ≤ 1000000) (J : List ByteArray → ByteArray → World → Prop)
  (hC : ∀ pre r W, J pre r W → W.cell? ⟨Bs, 0, none⟩ = some (.string r) ∧ W.frozen? ⟨Bs, 0, none⟩ = false ∧ W.cell? ⟨Bp, 0, none⟩ = some (.string ⟨#[47]⟩) ∧ W.cell? ⟨Bv, 0, none⟩ = some (.int .i64 0))
  (hS : ∀ pre r r' W, J pre r W → J pre r' (W.setCell ⟨Bs, 0, none⟩ (.string r')))
  (hY : ∀ pre x r W, J pre r W → x.size ≤ 1000000 → pre.length ≤ s.size → YieldAt Fence.wide (n - 1) Tryz.prog l #[.string x] W fun e W' => e = .returned (.bool true) ∧ J (pre ++ [x]) r W')
  (W : World) (h0 : J [] s W) :
  CallsIn Fence.wide n Tryz.prog 188 #[.func (.yield l) #[] #[], .pointer (some ⟨Bp, 0, none⟩), .pointer (some ⟨Bs, 0, none⟩), .pointer (some ⟨Bv, 0, none⟩)] W fun e W' => (∃ v, e = .returned v) ∧ ∃ r, J ((sp s.data.toList).map tx) r W' := by
 have HS := Aside0.mk hs
 have HC := Aside0.mk hC
 have HSS := Aside0.mk hS
 have HY := Aside0.mk hY
 obtain ⟨c1, c2, c3, c4⟩ := hC _ _ _ h0
 clear hs hC hS hY
 refine callsIn_of_wp Tryz.func188 rfl trivial ?_ rfl
 simp only [Tryz.ntmps188, List.size_toArray, List.length_cons, List.length_nil, Nat.reduceAdd, Nat.reduceSub, Array.replicate_succ, Array.replicate_zero, List.push_toArray, List.append_toArray, List.nil_append, List.cons_append]
 gi_wp2
 gi_loopw [] (fun wr => ∃ (pre : List ByteArray) (r : ByteArray), Aside0 (J pre r wr) ∧ Aside0 (pre ++ (sp r.data.toList).map tx = (sp s.data.toList).map tx) ∧ Aside0 (r.size ≤ 1000000)) (restW Bs)
 case atStart => exact ⟨[], s, ⟨h0⟩, ⟨rfl⟩, HS⟩
 case round =>
  obtain ⟨pre, r, HJ, HP, HR⟩ := hrel
  clear c1 c2 c3 c4 h0
  obtain ⟨c1, c2, c3, c4⟩ := HC.out _ _ _ HJ.out
  by_cases hneg : Lib.indexByte r.data.toList 47 < 0
  ·have hd : decide (Lib.indexByte r.data.toList 47 < 0) = true := decide_eq_true hneg
   have HN := Lib.hid (sp_neg _ hneg)
   clear hneg
   obtain ⟨fn, tmps, assign, body, hy, hR⟩ := HY.out pre r r wr HJ.out HR.out (by have := pre_len HP.out; rwa [data_length] at this)
   gi_wp2_with (refine ⟨trivial, ?_⟩; gi_at_call 95; refine (callsIn_wide.2 (Tryz.strings_Index_one r 47 _)).mono ?_; rintro e w' ⟨rfl, rfl⟩)
   refine hR.mono ?_
   rintro e W3 ⟨rfl, hJ3⟩
   gi_wp2
   go_end0
   refine ⟨⟨_, rfl⟩, r, ?_⟩
   have h1 := HP.out
   rw [HN.out] at h1
   rw [← h1, List.map_singleton, tx_of]
   exact hJ3
  ·have hd : decide (Lib.indexByte r.data.toList 47 < 0) = false := decide_eq_false hneg
   have hlt := index_lt _ (Int.not_lt.1 hneg)
   have HN := Lib.hid (sp_pos _ (Int.not_lt.1 hneg))
   obtain ⟨i, hi⟩ : ∃ i : Nat, Lib.indexByte r.data.toList 47 = (i : Int) := ⟨_, (Int.toNat_of_nonneg (Int.not_lt.1 hneg)).symm⟩
   clear hneg
   rw [hi] at hd hlt
   have hsz : r.size ≤ 1000000 := HR.out
   have hlen : i < r.size := by rw [data_length] at hlt; omega
   have HI := Lib.hid hi
   have hwi : wrap64 (i : Int) = (i : Int) := w64n _ (by omega)
   have hwj : wrap64 ((i : Int) + 1) = (i : Int) + 1 := by rw [show (i : Int) + 1 = ((i + 1 : Nat) : Int) by omega, w64n _ (by omega)]
   have g1 : ((i : Int) ≤ (r.size : Int)) = True := eq_true (by omega)
   have g2 : ((i : Int) + 1 ≤ (r.size : Int)) = True := eq_true (by omega)
   have g3 : (0 ≤ (i : Int) + 1) = True := eq_true (by omega)
   have g4 : (0 ≤ (i : Int)) = True := eq_true (by omega)
   obtain ⟨fn, tmps, assign, body, hy, hR⟩ := HY.out pre (r.extract 0 i) r wr HJ.out (by rw [ByteArray.size_extract]; omega) (by have := pre_len HP.out; rwa [data_length] at this)
   have HLT := Lib.hid hlen
   clear hlt hlen
   gi_wp2_with (refine ⟨trivial, ?_⟩; gi_at_call 95; refine (callsIn_wide.2 (Tryz.strings_Index_one r 47 _)).mono ?_; rw [hi]; rintro e w' ⟨rfl, rfl⟩)
   refine hR.mono ?_
   rintro e W3 ⟨rfl, hJ3⟩
   obtain ⟨d1, d2, d3, d4⟩ := HC.out _ _ _ hJ3
   gi_wp2
   have e3 : (r.extract (i + 1) r.size).size = r.size - (i + 1) := by rw [ByteArray.size_extract]; omega
   go_roundw
   case rel =>
    refine ⟨pre ++ [r.extract 0 i], r.extract (i + 1) r.size, ⟨HSS.out _ _ _ _ hJ3⟩, ⟨?_⟩, ⟨by have := HR.out; omega⟩⟩
    have h1 := HP.out
    have h2 := HN.out
    rw [HI.out, Int.toNat_natCast] at h2
    rw [← h1, h2, List.map_cons, List.append_assoc]
    congr 1
    rw [List.singleton_append]
    congr 1
    ·exact ext_take r i
    ·rw [ext_drop]
   case measure =>
    unfold restW
    rw [World.cell?_setCell_same' _ _ _ (by rw [d1]; rfl), c1]
    show (r.extract (i + 1) r.size).size < r.size
    have := HLT.out
    omega
end Go.Proofs.YtejdmofljifkbaaGreatDoor.P
namespace Go.Proofs.YtejdmofljifkbaaGreatDoor.P
open Go.RowKit Go.Shelf Go.Proofs.YtejdmofljifkbaaGreatDoorW.PrintWords Go.Proofs.YtejdmofljifkbaaGreatDoorW.PrintLast Go.Proofs.YtejdmofljifkbaaGreatDoorW.PrintMore
set_option linter.unusedVariables false
set_option maxHeartbeats 1600000 in
theorem split_range {g : Operand} {ps : Array Tmp} {assign body : Code} {Q : Exit → Act → World → Prop} {a : Act} {w : World} (n : Nat) (hn : 3 ≤ n) (Bp Bs Bv : Nat)
  (hg : a.eval g = .func (.func 188) #[] #[.pointer (some ⟨Bp, 0, none⟩), .pointer (some ⟨Bs, 0, none⟩), .pointer (some ⟨Bv, 0, none⟩)]) (s : ByteArray) (hs : s.size ≤ 1000000)
  (I : List ByteArray × ByteArray → World → Prop) (hI : OwnFrom w.heap.size I)
  (hC : ∀ pre r W, I (pre, r) W → W.cell? ⟨Bs, 0, none⟩ = some (.string r) ∧ W.frozen? ⟨Bs, 0, none⟩ = false ∧ W.cell? ⟨Bp, 0, none⟩ = some (.string ⟨#[47]⟩) ∧ W.cell? ⟨Bv, 0, none⟩ = some (.int .i64 0))
  (hS : ∀ pre r r' W, I (pre, r) W → I (pre, r') (W.setCell ⟨Bs, 0, none⟩ (.string r')))
  (h0 : I ([], s) w) (hps : ps.size = 1) (act : ByteArray → Act)
  (hassign : ∀ (l : Nat) (x : ByteArray) (W : World) (K : Act → World → Prop), K (act x) W →
   assign.wpIn (Fence.wide.inRound l) (n - 1 - 1) Tryz.prog (Exit.then K (fun _ _ _ => False)) { tmps := (ps.zip #[Value.string x]).foldl (fun t (p, v) => t.setIfInBounds p v) a.tmps, defers := [] } W)
  (hbody : ∀ (l : Nat) (pre : List ByteArray) (r x : ByteArray) (W : World), w.heap.size ≤ l → x.size ≤ 1000000 → pre.length ≤ s.size → I (pre, r) W →
   body.wpIn (Fence.wide.inRound l) (n - 1 - 1) Tryz.prog (fun e _ W' => e = .normal ∧ KeepsFrom w.heap.size W W' ∧ I (pre ++ [x], r) W') (act x) W)
  (hdone : ∀ (D : Nat) (r : ByteArray) (W : World), w.heap.size ≤ D → I ((sp s.data.toList).map tx, r) W → W.heap[D]? = some (.deferred (some [])) → Q .normal { a with defers := { target := .collected D, args := #[] } :: a.defers } W) :
  (Code.rangeFunc g ps assign body).wpIn Fence.wide n Tryz.prog Q a w := by
 refine wpIn_rangeFunc ?_
 intro fn hfn
 rw [show Fence.wide.round = none from rfl]
 obtain ⟨rec, hrec⟩ : ∃ rec : LoopState → Loop, rec = fun st => { state := st, pending := none, fn, tmps := a.tmps, params := ps, assign, body, defers := w.heap.size } := ⟨_, rfl⟩
 obtain ⟨W1, hW1⟩ : ∃ W1, (w.alloc (.deferred (some []))).alloc (.loop (rec .ready)) = W1 := ⟨_, rfl⟩
 have hL : W1.heap[w.heap.size + 1]? = some (.loop (rec .ready)) := by
  have h := World.alloc_heap_new (w.alloc (.deferred (some []))) (.loop (rec .ready))
  rw [World.size_alloc, hW1] at h
  exact h
 have hD : W1.heap[w.heap.size]? = some (.deferred (some [])) := by
  rw [← hW1]
  exact (Below.heap_alloc _ _ _ (by simp)).trans (World.alloc_heap_new w _)
 have hI1 : I ([], s) W1 := by
  rw [← hW1]
  exact hI.alloc _ (hI.alloc _ h0)
 refine ⟨w.heap.size + 1, [{ target := .collected w.heap.size, args := #[] }], W1, { target := .fn (.func 188) #[.pointer (some ⟨Bp, 0, none⟩), .pointer (some ⟨Bs, 0, none⟩), .pointer (some ⟨Bv, 0, none⟩)], args := #[.func (.yield (w.heap.size + 1)) #[] #[]] }, W1, 188,
  #[.func (.yield (w.heap.size + 1)) #[] #[], .pointer (some ⟨Bp, 0, none⟩), .pointer (some ⟨Bs, 0, none⟩), .pointer (some ⟨Bv, 0, none⟩)], W1, ?_, ?_, ?_, ?_, fun _ => by omega, ?_⟩
 ·rw [← hW1, hrec]
  exact run_enterLoop_outer _ _ _ _ _
 ·simp only [resolve, hg]
  simp [go_sem]
 ·intro f' hf'
  trivial
 ·simp [invoke, go_sem]
 ·refine (split_in (n - 1) (by omega) (w.heap.size + 1) Bp Bs Bv s hs
   (fun pre r W => I (pre, r) W ∧ W.heap[w.heap.size + 1]? = some (.loop (rec .ready)) ∧ W.heap[w.heap.size]? = some (.deferred (some [])))
   (fun pre r W h => hC pre r W h.1)
   (fun pre r r' W h => ⟨hS pre r r' W h.1, (KeepsOthers.setCell W _ _).same _ _ h.2.1 rfl, (KeepsOthers.setCell W _ _).same _ _ h.2.2 rfl⟩)
   ?_ W1 ⟨hI1, hL, hD⟩).mono ?_
  ·rintro pre x r W ⟨hi, hl, hd⟩ hx hpl
   have hlt : w.heap.size + 1 < W.heap.size := (Array.getElem?_eq_some_iff.1 hl).1
   have hy := run_yield (P := Tryz.prog) (args := #[Value.string x]) hl (by rw [hrec]; exact hps.symm)
   rw [hrec] at hy
   refine ⟨fn, _, assign, body, hy, roundIn_of_wpIn hfn (hassign _ x W _ ?_)⟩
   clear hy
   refine ⟨_, run_beginRound hl (by rw [hrec]), ?_⟩
   have hl2 : (W.putObj (w.heap.size + 1) (.loop { rec .ready with state := .busy })).heap[w.heap.size + 1]? = some (.loop { rec .ready with state := .busy }) := World.putObj_heap_same hlt
   have hd2 : (W.putObj (w.heap.size + 1) (.loop { rec .ready with state := .busy })).heap[w.heap.size]? = some (.deferred (some [])) := (World.putObj_heap_other (by omega)).trans hd
   refine wpIn_mono (hbody _ pre r x _ (by omega) hx hpl (hI.putObj _ hi (by omega) hl rfl)) ?_
   rintro e a3 W3 ⟨rfl, hk3, hi3⟩
   have hl3 := hk3.same _ _ (by omega) hl2 rfl
   have hd3 := hk3.same _ _ (Nat.le_refl _) hd2 rfl
   have he := run_endRound (P := Tryz.prog) none hl3
   refine ⟨_, _, he, rfl, hI.putObj _ hi3 (by omega) hl3 rfl, ?_, (World.putObj_heap_other (by omega)).trans hd3⟩
   rw [World.putObj_heap_same (Array.getElem?_eq_some_iff.1 hl3).1, hrec]
   rfl
  ·rintro e W2 ⟨⟨v, rfl⟩, r, hi, hl, hd⟩
   have he := run_endLoop (P := Tryz.prog) hl (by rw [hrec]; simp)
   rw [hrec] at he
   exact ⟨none, _, he, hdone _ r _ (Nat.le_refl _) (hI.putObj _ hi (by omega) hl rfl) ((World.putObj_heap_other (by omega)).trans hd)⟩
end Go.Proofs.YtejdmofljifkbaaGreatDoor.P
