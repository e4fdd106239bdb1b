/- A part of the proof: its steps, joined out of smaller texts. -/
import Derived.Test.YtddhkfdfhbpblaaGreatDoorAh4
import Derived.Lib.SliceRun
import Derived.Deep.RegionLaw
import Derived.Lib.Overlaps
import Derived.Lib.AppendZerosOnto
import Derived.Laws.NewBlocks
set_option linter.unusedVariables false
set_option linter.unusedSimpArgs false
namespace Go.Proofs.YtddhkfdfhbpblaaGreatDoor.P
open Go.RowKit Go.Proofs.YtddhkfdfhbpblaaGreatDoorW.PrintWords Go.Proofs.YtddhkfdfhbpblaaGreatDoorW.PrintLast Go.Proofs.YtddhkfdfhbpblaaGreatDoorW.PrintMore
set_option linter.unusedVariables false
attribute [local go_sem] Oper.semAt_some
def lastL : List S127 → List S127
 | [] => []
 | p :: t => if (t.any fun q => q.f0.toList == p.f0.toList) = true then lastL t else p :: lastL t
set_option maxRecDepth 100000 in
set_option maxHeartbeats 6400000 in
theorem last_calls (A0 : Option Addr) (c0 : Nat) (l0 : List (S127)) (w : World) (hr0 : Kd.C k127 w A0 l0.length l0) (hc0 : l0.length ≤ c0) (hl : l0.length < 1000000) :
  Calls Tryz.prog 64 #[.slice A0 l0.length c0] w fun e w' => ∃ v', e = .returned v' ∧ Kd.R k127 127 w' w.heap.size (fun k => w.heap.size ≤ k) v' (lastL l0) ∧ Below w.heap.size w w' := by
 have hu127 := Tryz.underlying127
 have HR0 := Aside0.mk hr0
 have HC0 := Lib.hid hc0
 have HL := Lib.hid hl
 obtain ⟨R, hR⟩ : ∃ R, lastL l0 = R := ⟨_, rfl⟩
 rw [hR]
 have HFR := Lib.hid hR
 clear hr0 hc0 hl hR
 go_enter Tryz.func64, Tryz.ntmps64
 go_wp2_with fail
 go_loopg [8, 3] (l0.length) (fun gk v8 v3 wr => ∃ (x : Int), v8 = .int .i64 x ∧ Aside0 (∃ (n : Nat) (acc : List S127), x = (n : Int) ∧ n + gk = l0.length ∧ acc ++ lastL (l0.drop n) = R ∧ acc.length ≤ n ∧ Kd.R k127 127 wr w.heap.size (fun k => w.heap.size ≤ k) v3 acc ∧ Below w.heap.size w wr))
 case atStart => exact ⟨0, rfl, ⟨0, [], rfl, by omega, HFR.out, Nat.le_refl _, Kd.R_nil _ _ _ _ _, Below.refl _ _⟩⟩
 case round =>
  clear HFR
  obtain ⟨x, rfl, HN⟩ := hrel
  obtain ⟨n, acc, hx, hn, hk, hle, ha, hb⟩ := HN.out
  cases gk with
  | zero =>
   have hlt : decide (x < (l0.length : Int)) = false := by
    simp; omega
   have hres : acc = R := by
    rw [← hk, List.drop_eq_nil_of_le (by omega)]
    simp [lastL]
   subst hres
   have HA := Lib.hid ha
   have HB := Lib.hid hb
   clear hx hn hk hle ha hb HN
   go_wp2
   go_ret
   exact ⟨_, rfl, HA.out, HB.out⟩
  | succ kk =>
   have hi : n < l0.length := by omega
   have h0 : (0 : Int) ≤ x := by omega
   have h1 : x < (l0.length : Int) := by omega
   have hlt : decide (x < (l0.length : Int)) = true := decide_eq_true h1
   obtain ⟨ad, hAd, hx0, hx1⟩ := at_T127 HR0.out x h0 h1
   replace hx0 := (hb.cell (World.block_lt_of_cell? w _ hx0)).trans hx0
   replace hx1 := (hb.cell (World.block_lt_of_cell? w _ hx1)).trans hx1
   have hget : l0.drop n = rd_T127 l0 x :: l0.drop (n + 1) := by
    rw [List.drop_eq_getElem_cons hi]
    congr 1
    unfold rd_T127
    rw [hx, Int.toNat_natCast, List.getD_eq_getElem?_getD, List.getElem?_eq_getElem hi]
    rfl
   obtain ⟨p, hp⟩ : ∃ p, rd_T127 l0 x = p := ⟨_, rfl⟩
   rw [hp] at hget hx0 hx1
   obtain ⟨m, hm⟩ : ∃ m, n + 1 = m := ⟨_, rfl⟩
   rw [hget, hm] at hk
   unfold lastL at hk
   have hw : wrap64 (x + 1) = (m : Int) := by
    have := HL.out
    rw [hx, show (n : Int) + 1 = ((m : Nat) : Int) by omega, w64n _ (by omega)]
   have q0 : ((0 : Int) ≤ (m : Int)) = True := eq_true (by omega)
   have q1 : ((m : Int) ≤ (l0.length : Int)) = True := eq_true (by omega)
   have HCD := Lib.hid (Kd.C_drop (m := m) HR0.out (by omega) HC0.out)
   subst hAd
   have HNN := Lib.hid (show m + kk = l0.length ∧ acc.length ≤ n ∧ n + 1 = m from ⟨by omega, hle, hm⟩)
   have HA := Lib.hid ha
   have HB := Lib.hid hb
   have HK0 := Lib.hid hk
   have hgw := eq_true h0
   have hgw2 := eq_true h1
   clear hget hx hn hk hi HN ha hb hle hp hm h0 h1
   by_cases hcm : c0 = m
   ·subst hcm
    have hc00 : c0 - c0 = 0 := Nat.sub_self _
    have hC : Kd.C k127 w (some ad) (l0.drop c0).length (l0.drop c0) := by have := HCD.out; rw [if_pos rfl] at this; exact this
    have hbw := below_alloc HB.out (.cells #[.string p.f0, .string p.f1] 127)
    have HCT := Lib.hid (cfunc_calls p.f0 wr.heap.size (some ad) (0) (l0.drop c0) _ (Kd.C_below hC hbw) (by rw [List.length_drop]; have := HC0.out; omega) (by rw [List.length_drop]; have := HL.out; omega) (blk_cell (heap_alloc_new wr (.cells #[.string p.f0, .string p.f1] 127)) 0))
    rw [List.length_drop] at HCT
    have HB2 := Lib.hid hbw
    have HA2 := Lib.hid (Kd.R_below HA.out (below_alloc (Below.refl wr.heap.size wr) (.cells #[.string p.f0, .string p.f1] 127)))
    have HP := Lib.hid (heap_alloc_new wr (.cells #[.string p.f0, .string p.f1] 127))
    clear hC hbw HCD
    go_wp2_with fail
    refine HCT.out.mono ?_
    rintro e w2 ⟨rfl, hb2⟩
    replace HB2 := Lib.hid (below_step HB2.out hb2)
    replace HA2 := Lib.hid (Kd.R_below HA2.out hb2)
    replace HP := Lib.hid (blk_below HP.out hb2)
    clear hb2 HCT hx0 hx1
    cases hany : (l0.drop c0).any fun q => q.f0.toList == p.f0.toList with
    | true =>
     have HK := Lib.hid (show acc ++ lastL (l0.drop c0) = R from by have := HK0.out; rw [hany, if_pos rfl] at this; exact this)
     go_wp2_with fail
     go_roundg kk
     case measure => omega
     case rel => exact ⟨wrap64 (x + 1), rfl, ⟨c0, acc, hw, HNN.out.1, HK.out, by have := HNN.out; omega, HA2.out, HB2.out⟩⟩
    | false =>
     have HK := Lib.hid (show (acc ++ [p]) ++ lastL (l0.drop c0) = R from by have := HK0.out; rw [hany, if_neg (by decide)] at this; rw [List.append_assoc]; exact this)
     have cp0 := blk_cell HP.out 0
     have cp1 := blk_cell HP.out 1
     go_wp2_with first
      | ((with_reducible refine wpList_load_blk rfl 127 (.tmp 5) rfl wr.heap.size rfl HP.out _ Tryz.underlying127 rfl (by kernel_rfl) ?_))
      | ((with_reducible refine gate_builtin (b := .append) (xs := #[.tmp 20, .tmp 22]) rfl ?_); at_builtin; refine Kd.R_append k127 (w0 := w) w.heap.size rfl (.tmp 20) (.tmp 22) 31 127 (.agg #[(.string ⟨#[]⟩), (.string ⟨#[]⟩)]) 32 rfl Tryz.underlying31 info127 rfl (by decide) (by omega) u3 acc p [.string p.f0, .string p.f1] (fun k => w.heap.size ≤ k) (fun _ => False) rfl rfl ?aP (fun _ hk => hk.elim) ?aF ?aO ?aB ?aS ?aL ?_; (case aP => exact k127_mkM _ _ _ p); (case aB => exact HB2.out); (case aF => exact fun k_ hk => by have := HB2.out.size; omega); (case aO => exact HA2.out); (case aS => exact HB2.out.size); (case aL => have := HNN.out; have := HL.out; omega); intro v2 w51 ho hb hg hat; have HO := Lib.hid ho; have HBB := Lib.hid hb; clear ho hb hg hat)
     go_roundg kk
     case measure => omega
     case rel => exact ⟨wrap64 (x + 1), rfl, ⟨c0, acc ++ [p], hw, HNN.out.1, HK.out, by have := HNN.out; simp; omega, HO.out, HBB.out⟩⟩
   ·have hC : Kd.C k127 w (some (ad.add (m * 2))) (l0.drop m).length (l0.drop m) := by have := HCD.out; rw [if_neg hcm] at this; exact this
    have hbw := below_alloc HB.out (.cells #[.string p.f0, .string p.f1] 127)
    have HCT := Lib.hid (cfunc_calls p.f0 wr.heap.size (some (ad.add (m * 2))) (c0 - m) (l0.drop m) _ (Kd.C_below hC hbw) (by rw [List.length_drop]; have := HC0.out; omega) (by rw [List.length_drop]; have := HL.out; omega) (blk_cell (heap_alloc_new wr (.cells #[.string p.f0, .string p.f1] 127)) 0))
    rw [List.length_drop] at HCT
    have HB2 := Lib.hid hbw
    have HA2 := Lib.hid (Kd.R_below HA.out (below_alloc (Below.refl wr.heap.size wr) (.cells #[.string p.f0, .string p.f1] 127)))
    have HP := Lib.hid (heap_alloc_new wr (.cells #[.string p.f0, .string p.f1] 127))
    clear hC hbw HCD
    go_wp2_with fail
    refine HCT.out.mono ?_
    rintro e w2 ⟨rfl, hb2⟩
    replace HB2 := Lib.hid (below_step HB2.out hb2)
    replace HA2 := Lib.hid (Kd.R_below HA2.out hb2)
    replace HP := Lib.hid (blk_below HP.out hb2)
    clear hb2 HCT hx0 hx1
    cases hany : (l0.drop m).any fun q => q.f0.toList == p.f0.toList with
    | true =>
     have HK := Lib.hid (show acc ++ lastL (l0.drop m) = R from by have := HK0.out; rw [hany, if_pos rfl] at this; exact this)
     go_wp2_with fail
     go_roundg kk
     case measure => omega
     case rel => exact ⟨wrap64 (x + 1), rfl, ⟨m, acc, hw, HNN.out.1, HK.out, by have := HNN.out; omega, HA2.out, HB2.out⟩⟩
    | false =>
     have HK := Lib.hid (show (acc ++ [p]) ++ lastL (l0.drop m) = R from by have := HK0.out; rw [hany, if_neg (by decide)] at this; rw [List.append_assoc]; exact this)
     have cp0 := blk_cell HP.out 0
     have cp1 := blk_cell HP.out 1
     go_wp2_with first
      | ((with_reducible refine wpList_load_blk rfl 127 (.tmp 5) rfl wr.heap.size rfl HP.out _ Tryz.underlying127 rfl (by kernel_rfl) ?_))
      | ((with_reducible refine gate_builtin (b := .append) (xs := #[.tmp 20, .tmp 22]) rfl ?_); at_builtin; refine Kd.R_append k127 (w0 := w) w.heap.size rfl (.tmp 20) (.tmp 22) 31 127 (.agg #[(.string ⟨#[]⟩), (.string ⟨#[]⟩)]) 32 rfl Tryz.underlying31 info127 rfl (by decide) (by omega) u3 acc p [.string p.f0, .string p.f1] (fun k => w.heap.size ≤ k) (fun _ => False) rfl rfl ?aP (fun _ hk => hk.elim) ?aF ?aO ?aB ?aS ?aL ?_; (case aP => exact k127_mkM _ _ _ p); (case aB => exact HB2.out); (case aF => exact fun k_ hk => by have := HB2.out.size; omega); (case aO => exact HA2.out); (case aS => exact HB2.out.size); (case aL => have := HNN.out; have := HL.out; omega); intro v2 w51 ho hb hg hat; have HO := Lib.hid ho; have HBB := Lib.hid hb; clear ho hb hg hat)
     go_roundg kk
     case measure => omega
     case rel => exact ⟨wrap64 (x + 1), rfl, ⟨m, acc ++ [p], hw, HNN.out.1, HK.out, by have := HNN.out; simp; omega, HO.out, HBB.out⟩⟩
end Go.Proofs.YtddhkfdfhbpblaaGreatDoor.P
namespace Go.Proofs.YtddhkfdfhbpblaaGreatDoor.P
open Go.RowKit Go.Proofs.YtddhkfdfhbpblaaGreatDoorW.PrintWords Go.Proofs.YtddhkfdfhbpblaaGreatDoorW.PrintLast Go.Proofs.YtddhkfdfhbpblaaGreatDoorW.PrintMore
open Go.Proofs.YtddhkfdfhbpblaaGreatDoor
set_option linter.unusedVariables false
abbrev hd0 : HdP := ⟨0, emT, emT, 0, 0, 0, 0, ⟨0, 0⟩, emT, emT, 0, 0, []⟩
def payV (buf : List Int) : Option (List PrP) := (recsF buf.length (Lib.bytesOf buf)).map fun l => l.map mkP
def extV (fl : Int) (buf : List Int) (at_ : Int) (p : Pend) : Pend × Int :=
 if fl = 76 ∨ fl = 75 then
  if (getT buf).size = 0 then (p, 10) else if fl = 76 then ({ p with name := getT buf, aN := at_ }, 0) else ({ p with link := getT buf, aL := at_ }, 0)
 else match payV buf with
  | none => (p, 6)
  | some l => if fl = 103 then ({ p with glo := layP p.glo l }, 0) else ({ p with loc := lastL l, aX := at_ }, 0)
def fullV (r : Raw) : ByteArray := if r.pre.size = 0 then r.name else ByteArray.append (ByteArray.append r.pre ⟨#[47]⟩) r.name
def numsV (l : List Int) (dev : Bool) : Int :=
 if (numV l 0).2 ≠ 0 then (numV l 0).2 else if (numV l 1).2 ≠ 0 then (numV l 1).2 else if (numV l 2).2 ≠ 0 then (numV l 2).2 else if (numV l 3).2 ≠ 0 then (numV l 3).2 else if (numV l 4).2 ≠ 0 then (numV l 4).2 else
 if dev = true then (if (numV l 5).2 ≠ 0 then (numV l 5).2 else (numV l 6).2) else 0
def devV (r : Raw) : Bool := ((kindV r.flag == 4) || (kindV r.flag == 5)) && !(r.mark == 0)
def linksV (r : Raw) : Bool := (kindV r.flag == 2) || (kindV r.flag == 3)
def rawH (l : List Int) (r : Raw) (nm lk : ByteArray) : HdP :=
 ⟨kindV r.flag, nm, lk, (numV l 0).1, (numV l 1).1, (numV l 2).1, (numV l 3).1, ⟨(numV l 4).1, 0⟩, r.user, r.group, if devV r = true then (numV l 5).1 else 0, if devV r = true then (numV l 6).1 else 0, []⟩
def endV (h : HdP) (k : Int) (links : Bool) : HdP × Int :=
 if h.f1.size = 0 ∨ (links = true ∧ h.f2.size = 0) then (hd0, 10)
 else if h.f6 > 0 ∧ (toldV k h.f1).1 ≠ 1 then (hd0, 11) else ({ h with f0 := (toldV k h.f1).1, f1 := (toldV k h.f1).2 }, 0)
def cutL2 (h : HdP) (links : Bool) : HdP := if links = true then h else { h with f2 := emT }
def laidH (l : List Int) (r : Raw) (p : Pend) (nm : ByteArray) : HdP := cutL2 ((layP p.glo p.loc).foldl stepH (rawH l r nm (if 0 ≤ p.aL then p.link else r.link))) (linksV r)
def nameC (r : Raw) (p : Pend) : ByteArray := if 0 ≤ p.aN then p.name else fullV r
def lessC (r : Raw) (p : Pend) : Bool := if 0 ≤ p.aN then false else if (layP p.glo p.loc).any (fun q => q.f0.toList == [112, 97, 116, 104]) = true then false else !(r.pre.toList == []) && (r.name.toList == [])
def itemC (l : List Int) (r : Raw) (p : Pend) : HdP × Int :=
 if numsV l (devV r) ≠ 0 then (hd0, numsV l (devV r)) else if lessC r p = true then (hd0, 10) else endV (laidH l r p (nameC r p)) (kindV r.flag) (linksV r)
theorem cut_name (h : HdP) (b : Bool) : (cutL2 h b).f1 = h.f1 := by unfold cutL2; split <;> rfl
theorem size0 (s : ByteArray) : (s.toList == []) = decide (s.size = 0) := by
 have h : s.toList = s.data.toList := Lib.toList_data s
 rw [h]
 have hs : s.size = s.data.toList.length := (data_length s).symm
 cases e : s.data.toList with
 | nil => rw [hs, e]; rfl
 | cons a t => rw [hs, e]; simp
end Go.Proofs.YtddhkfdfhbpblaaGreatDoor.P
namespace Go.Proofs.YtddhkfdfhbpblaaGreatDoor.P
open Go.RowKit Go.Proofs.YtddhkfdfhbpblaaGreatDoorW.PrintWords Go.Proofs.YtddhkfdfhbpblaaGreatDoorW.PrintLast Go.Proofs.YtddhkfdfhbpblaaGreatDoorW.PrintMore
attribute [local go_sem] max2_int min2_int max_two min_two max_three min_three max_four min_four   -- for this text's walks alone
set_option linter.unusedVariables false
set_option linter.unusedSimpArgs false
def head_Full.f (a0_0 : Int) (a0_1 : Int) (a0_2 : ByteArray) (a0_3 : ByteArray) (a0_4 : ByteArray) (a0_5 : ByteArray) (a0_6 : ByteArray) (a0_7 : Int) (a0_8 : Int) (a0_9 : Int) (a0_10 : Int) (a0_11 : Int) (a0_12 : Int) (a0_13 : Int) : Option (ByteArray) := if a0_4.toList = ([] : List UInt8) then (some a0_2) else (if a0_4.size + 1 ≤ 9223372036854775807 then (if (a0_4 ++ (⟨#[47]⟩ : ByteArray)).size + a0_2.size ≤ 9223372036854775807 then (some ((a0_4 ++ (⟨#[47]⟩ : ByteArray)) ++ a0_2)) else (none)) else (none))
set_option maxHeartbeats 8000000 in
set_option maxRecDepth 100000 in
theorem head_Full.calls (a0_0 : Int) (a0_1 : Int) (a0_2 : ByteArray) (a0_3 : ByteArray) (a0_4 : ByteArray) (a0_5 : ByteArray) (a0_6 : ByteArray) (a0_7 : Int) (a0_8 : Int) (a0_9 : Int) (a0_10 : Int) (a0_11 : Int) (a0_12 : Int) (a0_13 : Int) (r : ByteArray) (w : World) (h : head_Full.f a0_0 a0_1 a0_2 a0_3 a0_4 a0_5 a0_6 a0_7 a0_8 a0_9 a0_10 a0_11 a0_12 a0_13 = some r) :
  Calls Tryz.prog 108 #[.agg #[.int .i64 a0_0, .int .u8 a0_1, .string a0_2, .string a0_3, .string a0_4, .string a0_5, .string a0_6, .int .i64 a0_7, .int .i64 a0_8, .int .i64 a0_9, .int .i64 a0_10, .int .i64 a0_11, .int .i64 a0_12, .int .i64 a0_13]] w fun e w' => e = .returned (.string r) ∧ Below w.heap.size w w' := by
 have hu119 := Tryz.underlying119
 have HB := Aside0.mk (Below.refl w.heap.size w)
 have H : (if a0_4.toList = ([] : List UInt8) then (some a0_2) else (if a0_4.size + 1 ≤ 9223372036854775807 then (if (a0_4 ++ (⟨#[47]⟩ : ByteArray)).size + a0_2.size ≤ 9223372036854775807 then (some ((a0_4 ++ (⟨#[47]⟩ : ByteArray)) ++ a0_2)) else (none)) else (none))) = some r := h
 clear h
 by_cases c2 : a0_4.toList = ([] : List UInt8)
 ·rw [if_pos c2] at H
  have c2b0 : (a0_4.toList == ([] : List UInt8)) = true := beq_iff_eq.mpr c2
  have c2b1 : (a0_4.toList != ([] : List UInt8)) = false := bne_eq_false_iff_eq.mpr c2
  clear c2
  obtain rfl := Option.some.inj H
  go_enter Tryz.func108, Tryz.ntmps108
  go_wp2_with (first | ((with_reducible refine gate_dst (N := 1) rfl ?_); refine Zbx (N := 1) (cs := #[.int .i64 a0_0, .int .u8 a0_1, .string a0_2, .string a0_3, .string a0_4, .string a0_5, .string a0_6, .int .i64 a0_7, .int .i64 a0_8, .int .i64 a0_9, .int .i64 a0_10, .int .i64 a0_11, .int .i64 a0_12, .int .i64 a0_13]) (t := 119) HB ?_; intro gb199 w3 HB BK199 GE199; have GW199 := GE199; have hcz4 := Zc14 BK199.out; have hfz4 := blk_frozen BK199.out))
  go_ret
  exact ⟨Ze, Zhg HB GE199⟩
 ·rw [if_neg c2] at H
  have c2b0 : (a0_4.toList == ([] : List UInt8)) = false := beq_eq_false_iff_ne.mpr c2
  have c2b1 : (a0_4.toList != ([] : List UInt8)) = true := bne_iff_ne.mpr c2
  by_cases c5 : a0_4.size + 1 ≤ 9223372036854775807
  ·rw [if_pos c5] at H
   have c5b0 := eq_true c5
   have c5b1 : decide (a0_4.size + 1 ≤ 9223372036854775807) = true := decide_eq_true c5
   try have c5b2 : (9223372036854775807 < a0_4.size + 1) = False := eq_false (Nat.not_lt.2 c5)
   by_cases c6 : (a0_4 ++ (⟨#[47]⟩ : ByteArray)).size + a0_2.size ≤ 9223372036854775807
   ·rw [if_pos c6] at H
    have c6b0 := eq_true c6
    have c6b1 : decide ((a0_4 ++ (⟨#[47]⟩ : ByteArray)).size + a0_2.size ≤ 9223372036854775807) = true := decide_eq_true c6
    try have c6b2 : (9223372036854775807 < (a0_4 ++ (⟨#[47]⟩ : ByteArray)).size + a0_2.size) = False := eq_false (Nat.not_lt.2 c6)
    try (have c6b3 := c6; simp [ByteArray.size_append, lit_size] at c6b3)
    obtain rfl := Option.some.inj H
    go_enter Tryz.func108, Tryz.ntmps108
    go_wp2_with (first | ((with_reducible refine gate_dst (N := 1) rfl ?_); refine Zbx (N := 1) (cs := #[.int .i64 a0_0, .int .u8 a0_1, .string a0_2, .string a0_3, .string a0_4, .string a0_5, .string a0_6, .int .i64 a0_7, .int .i64 a0_8, .int .i64 a0_9, .int .i64 a0_10, .int .i64 a0_11, .int .i64 a0_12, .int .i64 a0_13]) (t := 119) HB ?_; intro gb199 w7 HB BK199 GE199; have GW199 := GE199; have hcz8 := Zc14 BK199.out; have hfz8 := blk_frozen BK199.out))
    go_ret
    exact ⟨Ze, Zhg HB GE199⟩
   ·rw [if_neg c6] at H
    exact absurd H (by simp)
  ·rw [if_neg c5] at H
   exact absurd H (by simp)
end Go.Proofs.YtddhkfdfhbpblaaGreatDoor.P
namespace Go.Proofs.YtddhkfdfhbpblaaGreatDoor.P
open Go.RowKit Go.Proofs.YtddhkfdfhbpblaaGreatDoorW.PrintWords Go.Proofs.YtddhkfdfhbpblaaGreatDoorW.PrintLast Go.Proofs.YtddhkfdfhbpblaaGreatDoorW.PrintMore
attribute [local go_sem] max2_int min2_int max_two min_two max_three min_three max_four min_four   -- for this text's walks alone
set_option linter.unusedVariables false
set_option linter.unusedSimpArgs false
end Go.Proofs.YtddhkfdfhbpblaaGreatDoor.P
namespace Go.Proofs.YtddhkfdfhbpblaaGreatDoor.P
open Go.RowKit Go.Proofs.YtddhkfdfhbpblaaGreatDoorW.PrintWords Go.Proofs.YtddhkfdfhbpblaaGreatDoorW.PrintLast Go.Proofs.YtddhkfdfhbpblaaGreatDoorW.PrintMore
open Go.Proofs.YtddhkfdfhbpblaaGreatDoor
set_option linter.unusedVariables false
theorem size0p (s : ByteArray) : (s.toList = ([] : List UInt8)) ↔ s.size = 0 := by
 have := size0 s
 constructor
 ·intro h; rw [h] at this; exact of_decide_eq_true this.symm
 ·intro h; rw [decide_eq_true h] at this; exact eq_of_beq this
theorem full_prog (r : Raw) (hp : r.pre.size ≤ 1000000) (hn : r.name.size ≤ 1000000) (x0 x1 x7 x8 x9 x10 x11 x12 x13 : Int) (x3 x5 x6 : ByteArray) : head_Full.f x0 x1 r.name x3 r.pre x5 x6 x7 x8 x9 x10 x11 x12 x13 = some (fullV r) := by
 unfold head_Full.f fullV
 by_cases h : r.pre.size = 0
 ·rw [if_pos ((size0p _).2 h), if_pos h]
 ·rw [if_neg (fun e => h ((size0p _).1 e)), if_neg h, if_pos (by omega), if_pos (by rw [ByteArray.size_append]; show r.pre.size + 1 + _ ≤ _; omega)]
  rfl
theorem full_size (r : Raw) : (fullV r).size ≤ r.pre.size + 1 + r.name.size := by
 unfold fullV
 split
 ·omega
 ·show (r.pre ++ (⟨#[47]⟩ : ByteArray) ++ r.name).size ≤ _
  rw [ByteArray.size_append, ByteArray.size_append]
  exact Nat.le_refl _
theorem getV_any (q : ByteArray) : ∀ l : List Pr, (getV q l).2 = l.any (fun p => p.f0.toList == q.toList)
 | [] => rfl
 | p :: t => by
  simp only [getV, List.any_cons]
  split
  ·rename_i h; simp [h]
  ·rename_i h; rw [getV_any q t]; simp [h]
structure PR (p : Pend) : Prop where
 ok : ∀ x ∈ p.glo ++ p.loc, pOK x = true
 sz : ∀ x ∈ p.glo ++ p.loc, x.f0.size ≤ 1000000 ∧ x.f1.size ≤ 1000000
 len : p.glo.length + p.loc.length < 1000000
 nm : p.name.size ≤ 1000000
 lk : p.link.size ≤ 1000000
theorem layP_mem {a b : List Pr} {x : Pr} (h : x ∈ layP a b) : x ∈ a ++ b := by
 have h1 : dd x ∈ laid (a ++ b) := by rw [← lay_laid]; exact List.mem_map_of_mem h
 rcases OverLaw.lay_mem (dd x) ((a ++ b).map dd) [] h1 with ⟨h2, _⟩ | h2
 ·obtain ⟨y, hy, e⟩ := List.mem_map.1 h2
  have : [y] = [x] := dd_inj (by simp [e])
  injection this with e2
  exact e2 ▸ hy
 ·cases h2
theorem PR.over {p : Pend} (h : PR p) : over_Right.f ((layP p.glo p.loc).length + 3000101) (layP p.glo p.loc) = some true := by
 have hs : Small (layP p.glo p.loc) 3000100 := by
  refine ⟨?_, fun x hx => ?_⟩
  ·have := lay_len p.glo p.loc; have := h.len; omega
  ·have := h.sz x (layP_mem hx); omega
 rw [over_prog _ _ hs _ (by omega)]
 rw [laid_ok (p.glo ++ p.loc) _ (List.all_eq_true.2 h.ok) (lay_laid p.glo p.loc)]
theorem step_sz (h : HdP) (q : Pr) (B : Nat) (h1 : h.f1.size ≤ B) (h2 : h.f2.size ≤ B) (hq : q.f1.size ≤ B) : (stepH h q).f1.size ≤ B ∧ (stepH h q).f2.size ≤ B := by
 unfold stepH
 split
 ·unfold sayV
  repeat' split
  all_goals exact ⟨by assumption, by assumption⟩
 ·exact ⟨h1, h2⟩
theorem fold_sz (B : Nat) : ∀ (l : List Pr) (h : HdP), h.f1.size ≤ B → h.f2.size ≤ B → (∀ x ∈ l, x.f1.size ≤ B) → (l.foldl stepH h).f1.size ≤ B ∧ (l.foldl stepH h).f2.size ≤ B
 | [], h, h1, h2, _ => ⟨h1, h2⟩
 | q :: t, h, h1, h2, hl => by
  have := step_sz h q B h1 h2 (hl q (List.mem_cons_self ..))
  exact fold_sz B t _ this.1 this.2 (fun x hx => hl x (List.mem_cons_of_mem _ hx))
theorem told_sz (k : Int) (s : ByteArray) : (toldV k s).2.size ≤ s.size := by
 unfold toldV
 split
 ·split
  ·show (if 1 < s.size then s.extract 0 (s.size - 1) else s).size ≤ s.size
   split
   ·rw [ByteArray.size_extract]; omega
   ·exact Nat.le_refl _
  ·exact Nat.le_refl _
 ·exact Nat.le_refl _
theorem getT_size (l : List Int) : (getT l).size ≤ l.length := by
 unfold getT
 have h1 : (strOfNums (l.takeWhile nzB)).size = (l.takeWhile nzB).length := by simp [strOfNums, ByteArray.size]
 rw [h1]
 exact (List.takeWhile_prefix _).length_le
theorem raw_sz (l : List Int) (hl : l.length = 512) : (rawV l).name.size ≤ 512 ∧ (rawV l).link.size ≤ 512 ∧ (rawV l).pre.size ≤ 512 ∧ (rawV l).user.size ≤ 512 ∧ (rawV l).group.size ≤ 512 := by
 have hc : ∀ i n, (getT (cutL l i n)).size ≤ 512 := fun i n => by
  have := getT_size (cutL l i n)
  unfold cutL at this ⊢
  rw [List.length_drop, List.length_take] at this
  omega
 unfold rawV
 refine ⟨hc _ _, hc _ _, ?_, ?_, ?_⟩
 all_goals (simp only; split)
 all_goals first | exact hc _ _ | (show (0 : Nat) ≤ 512; omega)
end Go.Proofs.YtddhkfdfhbpblaaGreatDoor.P
namespace Go.Proofs.YtddhkfdfhbpblaaGreatDoor.P
open Go.RowKit Go.Proofs.YtddhkfdfhbpblaaGreatDoorW.PrintWords Go.Proofs.YtddhkfdfhbpblaaGreatDoorW.PrintLast Go.Proofs.YtddhkfdfhbpblaaGreatDoorW.PrintMore
set_option linter.unusedVariables false
theorem keep6 {w w' : World} (h : Glob w) (hb : ∀ k, k < 6 → w'.heap[k]? = w.heap[k]?) : Glob w' := by
 have hc : ∀ {a : Addr} {v : Value}, a.block < 6 → w.cell? a = some v → w'.cell? a = some v := fun {a v} ha hv => by
  unfold World.cell? at hv ⊢
  rw [hb _ ha]
  exact hv
 refine ⟨?_, ⟨fun c hc2 => hc (by show (1 : Nat) < 6; decide) (h.utf.1 c hc2), fun i hi => ⟨hc (by show (2 : Nat) < 6; decide) (h.utf.2 i hi).1, hc (by show (2 : Nat) < 6; decide) (h.utf.2 i hi).2⟩⟩, ?_, ?_, ?_⟩
 ·have hp := h.p10
  unfold Lib.TabIs at hp ⊢
  unfold World.var? at hp ⊢
  rw [glob_p10] at hp ⊢
  simp only [Option.bind_some] at hp ⊢
  rw [hb _ (by decide)]
  exact hp
 ·obtain ⟨te, pe, h1⟩ := h.syn
  exact ⟨te, pe, hc (by decide) h1⟩
 ·obtain ⟨te, pe, h1⟩ := h.rng
  exact ⟨te, pe, hc (by decide) h1⟩
 ·obtain ⟨m, h1⟩ := h.mx
  exact ⟨m, hc (by decide) h1⟩
structure DG (w : World) (D : Nat) (vb : Value) : Prop where
 glob : Glob w
 dge : 6 ≤ D
 own : ∀ k, vb.ownBlock = some k → 6 ≤ k
section
variable {w0 w w' : World} {v0 : Value} {D : Nat} {d d' : Dc} {vl vg vb vl' vg' vb' : Value}
theorem DG.chg (h : DG w D vb) (hs : 6 ≤ w.heap.size) (c : Chg w w' D vb vb') : DG w' D vb' := by
 refine ⟨keep6 h.glob (fun k hk => c.block k (by omega) (by have := h.dge; omega) (fun e => by have := h.own k e.symm; omega)), h.dge, fun k hk => ?_⟩
 rcases c.own with e | e | ⟨b, e, hb⟩
 ·exact h.own k (e ▸ hk)
 ·rw [e] at hk; cases hk
 ·rw [e] at hk
  injection hk with hk
  omega
theorem DG.below (h : DG w D vb) (hb : Below w.heap.size w w') : DG w' D vb := ⟨h.glob.below hb, h.dge, h.own⟩
theorem dset_buf0 (d : Dc) (vl vg vb : Value) : (dcells d vl vg vb).setIfInBounds 16 (.slice none 0 0) = dcells { d with buf := [] } vl vg (.slice none 0 0) := rfl
theorem dset_buf (d : Dc) (vl vg vb v : Value) (b : List Int) : (dcells d vl vg vb).setIfInBounds 16 v = dcells { d with buf := b } vl vg v := rfl
theorem dset_left (d : Dc) (vl vg vb : Value) (x : Int) : (dcells d vl vg vb).setIfInBounds 17 (.int .i64 x) = dcells { d with left := x } vl vg vb := rfl
theorem dset_blocks (d : Dc) (vl vg vb : Value) (x : Int) : (dcells d vl vg vb).setIfInBounds 1 (.int .i64 x) = dcells { d with blocks := x } vl vg vb := rfl
theorem dset_fl (d : Dc) (vl vg vb : Value) (x : Int) : (dcells d vl vg vb).setIfInBounds 14 (.int .u8 x) = dcells { d with fl := x } vl vg vb := rfl
theorem dset_from (d : Dc) (vl vg vb : Value) (x : Int) : (dcells d vl vg vb).setIfInBounds 15 (.int .i64 x) = dcells { d with from_ := x } vl vg vb := rfl
theorem dset_aX (d : Dc) (vl vg vb : Value) (x : Int) (b : Bool) (h : decide (0 ≤ x) = b) : (dcells d vl vg vb).setIfInBounds 12 (.bool b) = dcells { d with p := { d.p with aX := x } } vl vg vb := by subst h; rfl
abbrev longA (s : ByteArray) (x : Int) (b : Bool) : Array Value := #[.string s, .int .i64 x, .bool b]
theorem dset_name (d : Dc) (vl vg vb : Value) (s : ByteArray) (x y : Int) (b : Bool) (h : decide (0 ≤ x) = b) (h2 : atOf x = y) : dcells { d with p := { d.p with name := s, aN := x } } vl vg vb = ((dcells d vl vg vb).toList.take 4 ++ (longA s y b).toList ++ (dcells d vl vg vb).toList.drop (4 + (longA s y b).size)).toArray := by subst h; subst h2; rfl
theorem dset_link (d : Dc) (vl vg vb : Value) (s : ByteArray) (x y : Int) (b : Bool) (h : decide (0 ≤ x) = b) (h2 : atOf x = y) : dcells { d with p := { d.p with link := s, aL := x } } vl vg vb = ((dcells d vl vg vb).toList.take 7 ++ (longA s y b).toList ++ (dcells d vl vg vb).toList.drop (7 + (longA s y b).size)).toArray := by subst h; subst h2; rfl
theorem RB_past (h : DT w0 v0 w D d vl vg vb) {v : Value} {xs : List Int} (hr : RB w v xs) (h2 : ∀ k, k ≠ D → w'.heap[k]? = w.heap[k]?) : RB w' v xs := R_past hr h.ds.blk (by decide) h2
theorem RP_past (h : DT w0 v0 w D d vl vg vb) {v : Value} {xs : List S127} (hr : RP w v xs) (h2 : ∀ k, k ≠ D → w'.heap[k]? = w.heap[k]?) : RP w' v xs := R_past hr h.ds.blk (by decide) h2
end
end Go.Proofs.YtddhkfdfhbpblaaGreatDoor.P
namespace Go.Proofs.YtddhkfdfhbpblaaGreatDoor.P
open Go.RowKit Go.Proofs.YtddhkfdfhbpblaaGreatDoorW.PrintWords Go.Proofs.YtddhkfdfhbpblaaGreatDoorW.PrintLast Go.Proofs.YtddhkfdfhbpblaaGreatDoorW.PrintMore
set_option linter.unusedVariables false
abbrev PrQ := S127
def flatP (l : List PrQ) : List Value := l.flatMap fun p => [.string p.f0, .string p.f1]
theorem flatP_cons (p : PrQ) (l : List PrQ) : flatP (p :: l) = .string p.f0 :: .string p.f1 :: flatP l := rfl
theorem flatP_len : ∀ l : List PrQ, (flatP l).length = l.length * 2
 | [] => rfl
 | p :: t => by rw [flatP_cons, List.length_cons, List.length_cons, flatP_len t, List.length_cons]; omega
theorem flatP_app (a b : List PrQ) : flatP (a ++ b) = flatP a ++ flatP b := by simp [flatP]
theorem flatP_take : ∀ (n : Nat) (l : List PrQ), (flatP l).take (n * 2) = flatP (l.take n)
 | 0, l => by simp [flatP]
 | n + 1, [] => by simp [flatP]
 | n + 1, p :: t => by rw [flatP_cons, show (n + 1) * 2 = n * 2 + 1 + 1 by omega, List.take_succ_cons, List.take_succ_cons, flatP_take n t, List.take_succ_cons, flatP_cons]
theorem flatP_drop : ∀ (n : Nat) (l : List PrQ), (flatP l).drop (n * 2) = flatP (l.drop n)
 | 0, l => by simp
 | n + 1, [] => by simp [flatP]
 | n + 1, p :: t => by rw [flatP_cons, show (n + 1) * 2 = n * 2 + 1 + 1 by omega, List.drop_succ_cons, List.drop_succ_cons, flatP_drop n t, List.drop_succ_cons]
theorem flatP_one : ∀ (l : List PrQ), ∀ u ∈ flatP l, u.oneCell' = true
 | [], u, h => by simp [flatP] at h
 | p :: t, u, h => by
  rw [flatP_cons] at h
  rcases List.mem_cons.1 h with rfl | h
  ·rfl
  ·rcases List.mem_cons.1 h with rfl | h
   ·rfl
   ·exact flatP_one t u h
theorem reps_flat {R : PrQ → List Value → Prop} (hR : ∀ p c, R p c → c = [.string p.f0, .string p.f1]) : ∀ (l : List PrQ) (cs : List Value), Reps R 2 l cs → cs = flatP l
 | [], cs, h => List.eq_nil_of_length_eq_zero (by simpa using h.1)
 | p :: t, cs, h => by
  have h0 := hR _ _ (h.2 0 p rfl)
  have hl := h.1
  rw [List.length_cons] at hl
  match cs, hl with
  | a :: b :: r, hl =>
   simp only [Nat.zero_mul, List.drop_zero, List.take_succ_cons, List.take_zero] at h0
   injection h0 with e1 h0
   injection h0 with e2 _
   rw [flatP_cons, e1, e2, ← reps_flat hR t r ⟨by simp at hl; omega, fun j q hq => by
    have := h.2 (j + 1) q (by simpa using hq)
    rw [show (j + 1) * 2 = j * 2 + 1 + 1 by omega, List.drop_succ_cons, List.drop_succ_cons] at this
    exact this⟩]
  | [], hl => simp at hl
  | [a], hl => simp at hl; omega
structure Rw (w : World) (base g cap : Nat) (l : List PrQ) : Prop where
 ge : base ≤ g
 row : ∃ cur : Array Value, w.heap[g]? = some (.cells cur 127 (0, 0)) ∧ cur.size = cap * 2 ∧ cur.toList.take (l.length * 2) = flatP l
 le : l.length ≤ cap
 max : cap ≤ maxLen
theorem flat_reps {R : PrQ → List Value → Prop} (hR : ∀ p, R p [.string p.f0, .string p.f1]) (l : List PrQ) : Reps R 2 l (flatP l) := by
 refine ⟨flatP_len l, fun j p hj => ?_⟩
 have hlt := (List.getElem?_eq_some_iff.1 hj).1
 have e : l.drop j = p :: l.drop (j + 1) := by
  rw [List.drop_eq_getElem_cons hlt]
  congr 1
  exact (List.getElem?_eq_some_iff.1 hj).2
 rw [flatP_drop, e, flatP_cons]
 exact hR p
theorem Rw.of_R {w : World} {base : Nat} {ok : Nat → Prop} {v : Value} {l : List PrQ} (h : Kd.R k127 127 w base ok v l) : (v = .slice none 0 0 ∧ l = []) ∨ ∃ g cap, v = .slice (some ⟨g, 0, none⟩) l.length cap ∧ Rw w base g cap l ∧ ok g := by
 obtain ⟨h0, inner, ho, hr⟩ := h
 have hf : inner = flatP l := reps_flat (fun p c hp => k127_open (k127.K_of_M hp)) l inner hr
 subst hf
 rcases ho.2 with ⟨e1, e2⟩ | ⟨g, cap, cur, rfl, hb, hh, hn, hm, hs, ht⟩
 ·exact .inl ⟨e1, List.eq_nil_of_length_eq_zero e2⟩
 ·exact .inr ⟨g, cap, rfl, ⟨hb, ⟨cur, hh, hs, ht⟩, hn, hm⟩, h0 g rfl⟩
theorem Rw.to_R {w : World} {base g cap : Nat} {l : List PrQ} (h : Rw w base g cap l) (ok : Nat → Prop) (hok : ok g) : Kd.R k127 127 w base ok (.slice (some ⟨g, 0, none⟩) l.length cap) l := by
 obtain ⟨cur, hh, hs, ht⟩ := h.row
 refine ⟨fun k hk => by
  have : g = k := by simpa [Value.ownBlock] using hk
  subst this
  exact hok, flatP l, ⟨flatP_len l, .inr ⟨g, cap, cur, rfl, h.ge, hh, h.le, h.max, hs, ht⟩⟩, flat_reps (fun p => k127_mkM _ _ _ p) l⟩
section
variable {P : Program}
theorem run_copy_k (w : World) (dT sT ty elem : TypeId) (size b o dLen dCap : Nat) (a : Addr) (sLen sCap n : Nat) (cs : List Value) (hu : P.underlying dT = some (.slice elem)) (hs : (P.info? elem).map (·.size) = some size) (hm : Nat.min sLen dLen = n) (hn : cs.length = n * size)
  (hsrc : ∀ j v, cs[j]? = some v → w.cell? (a.add j) = some v) (hc : ∀ j, j < cs.length → (w.cell? ⟨b, o + j, none⟩).isSome = true) (hf : ∀ j, j < cs.length → w.frozen? ⟨b, o + j, none⟩ = false) (h1 : ∀ v ∈ cs, v.oneCell' = true) :
  (Builtin.copy_ #[dT, sT] ty #[.slice (some ⟨b, o, none⟩) dLen dCap, .slice (some a) sLen sCap]).run P w = .ok (goInt n) (w.setCells b o cs) := by
 have hl := run_loadCells_list (P := P) w a cs hsrc
 have hst := run_storeCells_cells (P := P) b o cs 0 w (by simpa using hc) (by simpa using hf) h1
 simp only [Nat.add_zero] at hst
 cases hq : P.info? elem with
 | none => simp [hq] at hs
 | some i =>
  have hi : i.size = size := by simpa [hq] using hs
  simp [Builtin.copy_, run_underlying hu, Builtin.lenOf, Builtin.firstCells, sizeOf, typeInfo, hq, hi, hm, ← hn, hl, hst]
theorem run_clear_k (w : World) (t e ty : TypeId) (z : Value) (ht : P.underlying t = some (.slice e)) (hv : ∀ w, (zeroValue e).run P w = .ok z w) (b o n c : Nat) (hn : 0 < n) (zs : List Value) (hz : (Builtin.zeroCells z.cells n).toList = zs) (h1 : ∀ v ∈ zs, v.oneCell' = true)
  (hc : ∀ j, j < zs.length → (w.cell? ⟨b, o + j, none⟩).isSome = true) (hf : ∀ j, j < zs.length → w.frozen? ⟨b, o + j, none⟩ = false) :
  (Builtin.clear_ #[t] ty #[.slice (some ⟨b, o, none⟩) n c]).run P w = .ok (.tuple #[]) (w.setCells b o zs) := by
 have hst := run_storeCells_cells (P := P) b o zs 0 w (by simpa using hc) (by simpa using hf) h1
 simp only [Nat.add_zero] at hst
 obtain ⟨m, rfl⟩ : ∃ m, n = m + 1 := ⟨n - 1, by omega⟩
 simp [Builtin.clear_, run_underlying ht, hv, hz, hst]
theorem step_copy_run {ops : Array Oper} {o : Oper} {a : Act} {w : World} {K : Act → World → Prop} {Q : Exit → Act → World → Prop} {E : Prop}
  (hg : o.guard = none) (d x : Operand) (dT sT : TypeId) (hop : o.op = Op.call { callee := Callee.builtin Builtin.copy, args := #[d, x], argTypes := #[dT, sT] })
  (v u : Value) (hd : a.eval d = v) (hx : a.eval x = u) {v' : Value} {w' : World} (hr : (Builtin.copy_ #[dT, sT] o.type #[v, u]).run P w = .ok v' w') (hK : K (a.put o.dst v') w') :
  if Region.wanted o (yielded ops a.tmps) = true then Oper.wp P o a w K Q else E := by
 have hw : Region.wanted o (yielded ops a.tmps) = true := by simp [Region.wanted, hg]
 rw [if_pos hw]
 unfold Oper.wp
 simp [execOp, hop, resolve, invoke, builtin, hd, hx, hr, Result.andThen]
 exact hK
theorem wpList_copy_run (w : World) {ops : Array Oper} {rest : List Oper} {o : Oper} {a : Act} {Q : Exit → Act → World → Prop} (hgd : o.guard = none) (d s : Operand) (t t' : TypeId)
  (ho : o.op = .call { callee := .builtin .copy, args := #[d, s], argTypes := #[t, t'] }) (v u : Value) (hd : a.eval d = v) (hs : a.eval s = u) {v' : Value} {w' : World}
  (hr : (Builtin.copy_ #[t, t'] o.type #[v, u]).run P w = .ok v' w') (h : wpList P ops Q rest (a.put o.dst v') w') : wpList P ops Q (o :: rest) a w :=
 wpList_plain hgd fun _ hK => by
  unfold Oper.wp execOp
  simp only [ho, resolve, invoke, builtin, Sem.run_bind, Sem.run_pure, Result.andThen_ok, List.map_toArray, List.map_cons, List.map_nil, hd, hs, hr]
  exact hK _ _ h
end
end Go.Proofs.YtddhkfdfhbpblaaGreatDoor.P
namespace Go.Proofs.YtddhkfdfhbpblaaGreatDoor.P
open Go.RowKit Go.Proofs.YtddhkfdfhbpblaaGreatDoorW.PrintWords Go.Proofs.YtddhkfdfhbpblaaGreatDoorW.PrintLast Go.Proofs.YtddhkfdfhbpblaaGreatDoorW.PrintMore
set_option linter.unusedVariables false
attribute [local go_sem] Oper.semAt_some
theorem take_len_app {α : Type} (a b : List α) (n : Nat) (h : a.length = n) : (a ++ b).take n = a := by subst h; simp
theorem grownBy_set {w : World} (g : Nat) (vs : List Value) (o : Nat) : w.grownBy (w.setCells g o vs) (some g) :=
 have hb := setCells_below g 0 (Nat.zero_le _) vs o w (Below.refl 0 w)
 ⟨hb.os, hb.tape, hb.output, Nat.le_of_eq (setCells_size g vs o w).symm, fun k _ hk => setCells_far g vs o w k (fun e => hk (by rw [e]))⟩
theorem grownBy_tr {w w1 w2 : World} {r : Option Nat} (h : w.grownBy w1 r) (k : w1.grownBy w2 r) : w.grownBy w2 r :=
 ⟨k.os.trans h.os, k.tape.trans h.tape, k.output.trans h.output, Nat.le_trans h.size k.size, fun i hi hr => (k.block i (Nat.lt_of_lt_of_le hi h.size) hr).trans (h.block i hi hr)⟩
theorem grownBy_drew {w w1 : World} {r : Option Nat} (h : w.drew.grownBy w1 r) : w.grownBy w1 r := ⟨h.os, h.tape, h.output, h.size, h.block⟩
abbrev zP : List Value := [.string ⟨#[]⟩, .string ⟨#[]⟩]
theorem zeroP : (Builtin.zeroCells (Value.agg #[.string ⟨#[]⟩, .string ⟨#[]⟩]).cells 1).toList = zP := by kernel_rfl
set_option maxRecDepth 100000 in
set_option maxHeartbeats 3200000 in
theorem delete_calls {w : World} {base g cap : Nat} {l : List PrQ} (h : Rw w base g cap l) (i j : Nat) (hij : j = i + 1) (hi : i < l.length) :
  Calls Tryz.prog 131 #[.slice (some ⟨g, 0, none⟩) l.length cap, .int .i64 (i : Int), .int .i64 (j : Int)] w fun e w' => e = .returned (.slice (some ⟨g, 0, none⟩) (l.length - 1) cap) ∧ Rw w' base g cap (l.eraseIdx i) ∧ w.grownBy w' (some g) := by
 have hu := Tryz.underlying31
 have hu2 := Tryz.underlying127
 obtain ⟨i0, hi0, hz0, hzs, hzb⟩ := info_parts info127
 obtain ⟨cur, hh, hs, ht⟩ := h.row
 have hle := h.le
 have hmx := h.max
 unfold maxLen at hmx
 obtain ⟨news, hnews⟩ : ∃ news, news = flatP (l.drop j) := ⟨_, rfl⟩
 have hlen : news.length = (l.length - j) * 2 := by rw [hnews, flatP_len, List.length_drop]
 have hcell : ∀ t u, (flatP l)[t]? = some u → w.cell? ⟨g, t, none⟩ = some u := fun t u hu' => by
  rw [blk_cell hh, ← Array.getElem?_toList]
  rw [← ht, List.getElem?_take] at hu'
  split at hu'
  ·exact hu'
  ·cases hu'
 have hget : ∀ t u, news[t]? = some u → w.cell? ⟨g, j * 2 + t, none⟩ = some u := fun t u hu' => by
  refine hcell _ _ ?_
  rw [hnews, ← flatP_drop, List.getElem?_drop] at hu'
  exact hu'
 obtain ⟨A, hA, hsrc⟩ : ∃ A : Addr, (if cap = j then some (⟨g, 0, none⟩ : Addr) else some ⟨g, j * 2, none⟩) = some A ∧ Hid (∀ t u, news[t]? = some u → w.drew.cell? (A.add t) = some u) := by
  by_cases hc : cap = j
  ·refine ⟨⟨g, 0, none⟩, by simp [hc], fun t u hu' => ?_⟩
   have h0 : news.length = 0 := by rw [hlen]; omega
   rw [List.length_eq_zero_iff.1 h0] at hu'
   simp at hu'
  ·refine ⟨⟨g, j * 2, none⟩, by simp [hc], fun t u hu' => ?_⟩
   rw [Addr.add_lit]
   exact hget t u hu'
 have s1 : Hid (news.length = (l.length - j) * 2) := hlen
 have s2 : Hid (∀ u ∈ news, u.oneCell' = true) := by rw [hnews]; exact flatP_one _
 have hsome : ∀ k, k < cap * 2 → (w.cell? ⟨g, k, none⟩).isSome = true := fun k hk => by rw [blk_cell hh, Array.getElem?_eq_getElem (by omega)]; rfl
 have s3 : Hid (∀ t, t < news.length → (w.drew.cell? ⟨g, 0 + i * 2 + t, none⟩).isSome = true ∧ w.drew.frozen? ⟨g, 0 + i * 2 + t, none⟩ = false) := by
  intro t ht'
  rw [hlen] at ht'
  exact ⟨hsome _ (by omega), blk_frozen hh _⟩
 obtain ⟨W1, hW1⟩ : ∃ W1, W1 = w.drew.setCells g (0 + i * 2) news := ⟨_, rfl⟩
 have hh1 : W1.heap[g]? = some (.cells (cur.toList.take (i * 2) ++ news ++ cur.toList.drop (i * 2 + news.length)).toArray 127 (0, 0)) := by
  have e := blk_part (w := w.drew) (j := i * 2) (cells := news.toArray) hh (by rw [List.size_toArray, hlen, hs]; omega) rfl
  rw [hW1, Nat.zero_add]
  simpa using e
 have hsz1 : (cur.toList.take (i * 2) ++ news ++ cur.toList.drop (i * 2 + news.length)).toArray.size = cap * 2 := by
  simp only [List.size_toArray, List.length_append, List.length_take, List.length_drop, Array.length_toList, hs, hlen]
  omega
 obtain ⟨cur1, hc1⟩ : ∃ cur1, cur1 = (cur.toList.take (i * 2) ++ news ++ cur.toList.drop (i * 2 + news.length)).toArray := ⟨_, rfl⟩
 rw [← hc1] at hh1 hsz1
 have hcl : ∀ ty, (Builtin.clear_ #[31] ty #[.slice (some ⟨g, (l.length - 1) * 2, none⟩) (l.length - (l.length - 1)) (cap - (l.length - 1))]).run Tryz.prog W1 = .ok (.tuple #[]) (W1.setCells g ((l.length - 1) * 2) zP) :=
  fun ty => by
   rw [show l.length - (l.length - 1) = 1 by omega]
   exact run_clear_k W1 _ _ ty _ hu Tryz.zeroValue127 g ((l.length - 1) * 2) 1 _ (by omega) _ zeroP (by decide) (fun t ht' => by rw [blk_cell hh1, Array.getElem?_eq_getElem (by have : zP.length = 2 := rfl; omega)]; rfl) (fun t _ => blk_frozen hh1 _)
 have hfin : Hid (Rw (W1.setCells g ((l.length - 1) * 2) zP) base g cap (l.eraseIdx i) ∧ w.grownBy (W1.setCells g ((l.length - 1) * 2) zP) (some g)) := by
  refine ⟨⟨h.ge, ⟨_, blk_part hh1 (cells := zP.toArray) (by simp [hsz1]; omega) rfl, ?_, ?_⟩, by rw [List.length_eraseIdx, if_pos hi]; omega, h.max⟩, ?_⟩
  ·simp [hsz1]; omega
  ·have hel : (l.eraseIdx i).length = l.length - 1 := by rw [List.length_eraseIdx, if_pos hi]
   rw [hel, List.eraseIdx_eq_take_drop_succ, ← hij, flatP_app, ← flatP_take, ← hnews, ← ht]
   show ((cur1.toList.take ((l.length - 1) * 2) ++ zP) ++ _).take ((l.length - 1) * 2) = _
   rw [List.append_assoc, take_len_app _ _ _ (by rw [List.length_take, Array.length_toList (xs := cur1), hsz1]; omega)]
   rw [hc1]
   show ((cur.toList.take (i * 2) ++ news) ++ _).take ((l.length - 1) * 2) = _
   rw [List.take_take, Nat.min_eq_left (by omega), take_len_app _ _ _ (by rw [List.length_append, List.length_take, Array.length_toList (xs := cur), hlen, hs]; omega)]
  ·refine grownBy_tr ?_ (grownBy_set g _ _)
   rw [hW1]
   exact grownBy_drew (grownBy_set (w := w.drew) g _ _)
 have hW : Hid (W1 = w.drew.setCells g (0 + i * 2) news) := hW1
 have hic : i ≤ cap := by omega
 have hjc : j ≤ cap := by omega
 have hjl : j ≤ l.length := by omega
 have hij2 : ¬ ((i : Int) = (j : Int)) := by omega
 have hadd : i + (l.length - j) = l.length - 1 := by omega
 clear hij hW1 hh1 hsz1 hc1 hget hcell hsome hnews hlen hh hs ht
 have mixed : Tryz.prog.follows Departure.mixedOrders = true := by kernel_rfl
 go_enter Tryz.func131, Tryz.ntmps131
 go_wp2_with fail
 go_region_law_o (refine step_append_room rfl (.tmp 22) (.tmp 25) 31 rfl 127 i0 2 hu hi0 hzs g 0 i cap (by simp [Act.eval, Act.put]) A (l.length - j) (cap - j) news (by simp [Act.eval, Act.put]) s1.out hsrc.out s2.out (by omega) s3.out ?_; rw [← hW.out])
 go_wp2
 go_ret
 exact ⟨rfl, hfin.out⟩
end Go.Proofs.YtddhkfdfhbpblaaGreatDoor.P
namespace Go.Proofs.YtddhkfdfhbpblaaGreatDoor.P
open Go.RowKit Go.Proofs.YtddhkfdfhbpblaaGreatDoorW.PrintWords Go.Proofs.YtddhkfdfhbpblaaGreatDoorW.PrintLast Go.Proofs.YtddhkfdfhbpblaaGreatDoorW.PrintMore
set_option linter.unusedVariables false
attribute [local go_sem] Oper.semAt_some
theorem flat_cell {w : World} {g : Nat} {cur : Array Value} {t : Nat} {l : List PrQ} (hh : w.heap[g]? = some (.cells cur t (0, 0))) (ht : cur.toList.take (l.length * 2) = flatP l) : ∀ k u, (flatP l)[k]? = some u → w.cell? ⟨g, k, none⟩ = some u := fun k u hu' => by
 rw [blk_cell hh, ← Array.getElem?_toList]
 rw [← ht, List.getElem?_take] at hu'
 split at hu'
 ·exact hu'
 ·cases hu'
theorem flat_rest {w : World} {g : Nat} {cur : Array Value} {t : Nat} {l : List PrQ} (hh : w.heap[g]? = some (.cells cur t (0, 0))) (ht : cur.toList.take (l.length * 2) = flatP l) (i : Nat) : ∀ k u, (flatP (l.drop i))[k]? = some u → w.cell? ⟨g, i * 2 + k, none⟩ = some u := fun k u hu' => by
 refine flat_cell hh ht _ _ ?_
 rw [← flatP_drop, List.getElem?_drop] at hu'
 exact hu'
set_option maxRecDepth 100000 in
set_option maxHeartbeats 3200000 in
theorem insert_shift {w : World} {base g cap : Nat} {l : List PrQ} (h : Rw w base g cap l) (i : Nat) (hi : i < l.length) (hroom : l.length + 1 ≤ cap) (p : PrQ) (vb : Nat) (hvb : w.heap[vb]? = some (.cells #[.string p.f0, .string p.f1] 127 (0, 0))) (hne : vb ≠ g) :
  Calls Tryz.prog 132 #[.slice (some ⟨g, 0, none⟩) l.length cap, .int .i64 (i : Int), .slice (some ⟨vb, 0, none⟩) 1 1] w fun e w' => e = .returned (.slice (some ⟨g, 0, none⟩) (l.length + 1) cap) ∧ Rw w' base g cap (l.take i ++ p :: l.drop i) ∧ w.grownBy w' (some g) := by
 have hu := Tryz.underlying31
 have hu2 := Tryz.underlying127
 obtain ⟨i0, hi0, hz0, hzs, hzb⟩ := info_parts info127
 obtain ⟨cur, hh, hs, ht⟩ := h.row
 have hmx := h.max
 unfold maxLen at hmx
 obtain ⟨n, hn⟩ : ∃ n, l.length = n := ⟨_, rfl⟩
 obtain ⟨mv, hmv⟩ : ∃ mv, mv = flatP (l.drop i) := ⟨_, rfl⟩
 have hml : mv.length = (n - i) * 2 := by rw [hmv, flatP_len, List.length_drop, hn]
 have hsz : (Tryz.prog.info? 127).map (·.size) = some 2 := by kernel_rfl
 have hsome : ∀ k, k < cap * 2 → (w.cell? ⟨g, k, none⟩).isSome = true := fun k hk => by rw [blk_cell hh, Array.getElem?_eq_getElem (by omega)]; rfl
 have hov : ∀ lb cb, (callFunc 153 #[.slice (some ⟨vb, 0, none⟩) 1 1, .slice (some ⟨g, (i + 1) * 2, none⟩) lb cb]).run Tryz.prog w = .ok (.value (.bool false)) w := fun lb cb => by
  rw [run_callFunc_extern Tryz.func153 (by kernel_rfl) (by kernel_rfl) (by kernel_rfl) (e := Extern.SlicesOverlaps.overlaps #[31, 31] #[4]) (by kernel_rfl),
   Lib.run_overlaps_apart w 31 4 127 hu 2 (fun _ => by simp [Go.sizeOf, typeInfo, hi0, hzs]) ⟨vb, 0, none⟩ ⟨g, (i + 1) * 2, none⟩ 1 1 lb cb hne 127 127 2 (cap * 2) (by simp [World.shape?, hvb]) (by simp [World.shape?, hh, hs]) (by omega) (blk_frozen hvb _) (blk_frozen hvb _)]
  rfl
 have hcp1 : ∀ ty dc sc, (Builtin.copy_ #[31, 31] ty #[.slice (some ⟨g, (i + 1) * 2, none⟩) (n - i) dc, .slice (some ⟨g, i * 2, none⟩) (n + 1 - i) sc]).run Tryz.prog w.drew = .ok (goInt ((n - i : Nat) : Int)) (w.drew.setCells g ((i + 1) * 2) mv) := fun ty dc sc =>
  run_copy_k w.drew _ _ ty 127 2 g ((i + 1) * 2) (n - i) dc ⟨g, i * 2, none⟩ (n + 1 - i) sc (n - i) mv hu hsz (by simp only [Nat.min_def]; split <;> omega) hml
   (fun j v hj => by rw [Addr.add_lit]; exact flat_rest hh ht i j v (by rw [← hmv]; exact hj))
   (fun j hj => hsome _ (by omega)) (fun j hj => blk_frozen hh _) (by rw [hmv]; exact flatP_one _)
 obtain ⟨W1, hW1⟩ : ∃ W1, W1 = w.drew.setCells g ((i + 1) * 2) mv := ⟨_, rfl⟩
 obtain ⟨cur1, hc1⟩ : ∃ cur1 : Array Value, cur1 = (cur.toList.take ((i + 1) * 2) ++ mv ++ cur.toList.drop ((i + 1) * 2 + mv.length)).toArray := ⟨_, rfl⟩
 have hh1 : W1.heap[g]? = some (.cells cur1 127 (0, 0)) := by
  have e := blk_part (w := w.drew) (j := (i + 1) * 2) (cells := mv.toArray) hh (by rw [List.size_toArray, hml, hs]; omega) rfl
  rw [hW1, hc1]
  simpa using e
 have hsz1 : cur1.size = cap * 2 := by
  rw [hc1]
  simp only [List.size_toArray, List.length_append, List.length_take, List.length_drop, Array.length_toList, hs, hml]
  omega
 have hvb1 : W1.heap[vb]? = some (.cells #[.string p.f0, .string p.f1] 127 (0, 0)) := by
  rw [hW1, setCells_far g _ _ _ vb hne]
  exact hvb
 have hcp2 : ∀ (W : World), (∀ x, W.cell? x = W1.cell? x) → (∀ x, W.frozen? x = W1.frozen? x) → ∀ ty dc, (Builtin.copy_ #[31, 31] ty #[.slice (some ⟨g, i * 2, none⟩) (n + 1 - i) dc, .slice (some ⟨vb, 0, none⟩) 1 1]).run Tryz.prog W = .ok (goInt 1) (W.setCells g (i * 2) [.string p.f0, .string p.f1]) := fun W hWc hWf ty dc =>
  run_copy_k W _ _ ty 127 2 g (i * 2) (n + 1 - i) dc ⟨vb, 0, none⟩ 1 1 1 [.string p.f0, .string p.f1] hu hsz (by simp only [Nat.min_def]; split <;> omega) rfl
   (fun j v hj => by rw [Addr.add_lit, hWc, Nat.zero_add, blk_cell hvb1, ← Array.getElem?_toList]; exact hj)
   (fun j hj => by
    have : [Value.string p.f0, Value.string p.f1].length = 2 := rfl
    rw [hWc, blk_cell hh1, Array.getElem?_eq_getElem (by omega)]; rfl) (fun j hj => by rw [hWf]; exact blk_frozen hh1 _) (by simp [Value.oneCell'])
 have hfin : Hid (∀ W : World, W.heap = W1.heap → W.os = W1.os → W.tape = W1.tape → W.output = W1.output → Rw (W.setCells g (i * 2) [.string p.f0, .string p.f1]) base g cap (l.take i ++ p :: l.drop i) ∧ w.grownBy (W.setCells g (i * 2) [.string p.f0, .string p.f1]) (some g)) := by
  intro W e1 e2 e3 e4
  have hl2 : (l.take i ++ p :: l.drop i).length = n + 1 := by simp [hn]; omega
  refine ⟨⟨h.ge, ⟨_, blk_part (w := W) (cells := #[.string p.f0, .string p.f1]) (by rw [e1]; exact hh1) (by simp [hsz1]; omega) rfl, ?_, ?_⟩, by rw [hl2]; exact hn ▸ hroom, h.max⟩, ?_⟩
  ·simp [hsz1]; omega
  ·rw [hl2, flatP_app, flatP_cons, ← flatP_take, ← hmv, ← ht]
   rw [hn]
   obtain ⟨R, hR⟩ : ∃ R, cur.toList.drop ((i + 1) * 2 + mv.length) = R := ⟨_, rfl⟩
   obtain ⟨A, hA⟩ : ∃ A, cur.toList.take (i * 2) = A := ⟨_, rfl⟩
   have hAl : A.length = i * 2 := by rw [← hA, List.length_take, Array.length_toList (xs := cur), hs]; omega
   have ha : (cur.toList.take ((i + 1) * 2)).length = (i + 1) * 2 := by rw [List.length_take, Array.length_toList (xs := cur), hs]; omega
   have e1 : cur1.toList = cur.toList.take ((i + 1) * 2) ++ (mv ++ R) := by rw [hc1, hR, List.append_assoc]
   have e2 : cur1.toList.take (i * 2) = A := by
    rw [e1, List.take_append_of_le_length (by rw [ha]; omega), List.take_take, Nat.min_eq_left (by omega), hA]
   have e3 : cur1.toList.drop (i * 2 + 2) = mv ++ R := by
    rw [e1, show i * 2 + 2 = (i + 1) * 2 by omega, List.drop_append_of_le_length (by rw [ha]; omega), List.drop_of_length_le (by rw [ha]; omega), List.nil_append]
   show ((cur1.toList.take (i * 2) ++ [Value.string p.f0, Value.string p.f1]) ++ cur1.toList.drop (i * 2 + 2)).take ((n + 1) * 2) = _
   rw [e2, e3, ← List.append_assoc, take_len_app _ _ _ (by simp only [List.length_append, hAl, hml, List.length_cons, List.length_nil]; omega), List.take_take, Nat.min_eq_left (by omega), hA]
   simp
  ·refine grownBy_tr ?_ (grownBy_set g _ _)
   have hg := grownBy_drew (grownBy_set (w := w.drew) g mv ((i + 1) * 2))
   rw [← hW1] at hg
   exact ⟨by rw [e2]; exact hg.os, by rw [e3]; exact hg.tape, by rw [e4]; exact hg.output, by rw [e1]; exact hg.size, fun k hk hr => by rw [e1]; exact hg.block k hk hr⟩
 have hz2 : ¬ ((i : Int) = (n : Int)) := by omega
 have hw1 : IntKind.i64.wrap ((i : Int) + 1) = (i : Int) + 1 := by rw [IntKind.wrap_i64]; omega
 have hw2 : IntKind.i64.wrap ((n : Int) + 1) = (n : Int) + 1 := by rw [IntKind.wrap_i64]; omega
 have hb1 : (0 : Int) ≤ (i : Int) + 1 := by omega
 have hin : i ≤ n := by omega
 have htn : ((i : Int) + 1).toNat = i + 1 := by omega
 have hb2 : ¬ (cap = i + 1) := by omega
 have hb3 : (i : Int) ≤ (n : Int) + 1 := by omega
 have hb4 : ¬ (cap = i) := by omega
 have hb5 : ¬ ((cap : Int) < (n : Int) + 1) := by omega
 rw [hn] at hroom hi ⊢
 have HW := Lib.hid hW1
 rw [← hW1] at hcp1
 clear hi0 hz0 hzs hzb hW1 hc1 hsz1 hh1 hvb1 hsome hml hmv hs ht hh hvb h hn
 have mixed : Tryz.prog.follows Departure.mixedOrders = true := by kernel_rfl
 go_enter Tryz.func132, Tryz.ntmps132
 go_wp2_with (simp only [hov])
 go_region_law_o (refine step_copy_run rfl _ _ 31 31 rfl _ _ (by simp [Act.eval, Act.put]) (by simp [Act.eval, Act.put]) (hcp1 _ _ _) ?_)
 go_wp2_with (at_builtin; refine wpList_copy_run _ rfl _ _ 31 31 rfl _ _ rfl rfl (hcp2 _ (fun _ => rfl) (fun _ => rfl) _ _) ?_)
 go_ret
 exact ⟨rfl, hfin.out _ rfl rfl rfl rfl⟩
set_option maxRecDepth 100000 in
set_option maxHeartbeats 3200000 in
theorem insert_end {w : World} {base : Nat} {v : Value} {l : List PrQ} (h : Kd.R k127 127 w base (fun k => base ≤ k) v l) (hb : base ≤ w.heap.size) (hl : l.length < 1000000) (p : PrQ) (vb : Nat) (hvb : w.heap[vb]? = some (.cells #[.string p.f0, .string p.f1] 127 (0, 0))) :
  Calls Tryz.prog 132 #[v, .int .i64 (l.length : Int), .slice (some ⟨vb, 0, none⟩) 1 1] w fun e w' => ∃ v', e = .returned v' ∧ Kd.R k127 127 w' base (fun k => base ≤ k) v' (l ++ [p]) ∧ Below base w w' := by
 have hu := Tryz.underlying31
 have hu2 := Tryz.underlying127
 have HR := Lib.hid h
 have HV : Hid (Kd.C k127 w (some ⟨vb, 0, none⟩) 1 [p]) := Lib.hid ⟨rfl, by decide, fun _ => ⟨_, rfl, fun j q hq => by
  cases j with
  | zero =>
   obtain rfl : p = q := by simpa using hq
   refine ⟨[.string p.f0, .string p.f1], rfl, k127.K_of_M (k127_mkM w 0 (fun _ => True) p), fun i u hu' => ?_⟩
   rw [Nat.zero_mul, Nat.zero_add, Addr.add_lit, Nat.zero_add, blk_cell hvb, ← Array.getElem?_toList]
   exact hu'
  | succ j => simp at hq⟩⟩
 have HB := Lib.hid (Below.refl base w)
 have HBS := Lib.hid hb
 have HL := Lib.hid hl
 clear h hvb hb hl
 rcases Rw.of_R HR.out with ⟨rfl, rfl⟩ | ⟨g, cap, rfl, hrw, hok⟩
 ·go_enter Tryz.func132, Tryz.ntmps132
  go_wp2_with ((with_reducible refine gate_builtin (b := .append) (xs := #[.tmp 23, .tmp 24]) rfl ?_); at_builtin; refine Kd.R_append_rows k127 (Rr := k127.K w) (w0 := w) base rfl (.tmp 23) (.tmp 24) 31 127 (.agg #[(.string ⟨#[]⟩), (.string ⟨#[]⟩)]) 32 rfl Tryz.underlying31 info127 rfl (by decide) (by omega) (.slice none 0 0) [] [p] _ _ _ (fun k => base ≤ k) (fun _ => False) rfl rfl ?aO ?aR (fun q cs hq => by rw [k127_open hq]; exact k127_mkM _ _ _ q) (fun _ h => h.elim) ?aF ?aB ?aS ?aL ?_; (case aR => exact HV.out); (case aB => exact HB.out); (case aF => exact (fun _ hk => Nat.le_trans HBS.out hk)); (case aO => exact HR.out); (case aS => exact HBS.out); (case aL => decide); intro v9 w9 ho hb9 hg9 hat9; have HO := Lib.hid ho; have HB9 := Lib.hid hb9; clear ho hb9 hg9 hat9)
  go_ret
  exact ⟨_, rfl, HO.out, HB9.out⟩
 ·have hle := hrw.le
  have hmx := hrw.max
  unfold maxLen at hmx
  clear hrw hok
  obtain ⟨n, hn⟩ : ∃ n, l.length = n := ⟨_, rfl⟩
  rw [hn] at HR HL hle ⊢
  have HN := Lib.hid hn
  clear hn
  by_cases hcn : cap = n
  ·subst hcn
   go_enter Tryz.func132, Tryz.ntmps132
   go_wp2_with ((with_reducible refine gate_builtin (b := .append) (xs := #[.tmp 23, .tmp 24]) rfl ?_); at_builtin; refine Kd.R_append_rows k127 (Rr := k127.K w) (w0 := w) base rfl (.tmp 23) (.tmp 24) 31 127 (.agg #[(.string ⟨#[]⟩), (.string ⟨#[]⟩)]) 32 rfl Tryz.underlying31 info127 rfl (by decide) (by omega) (.slice (some ⟨g, 0, none⟩) cap cap) l [p] _ _ _ (fun k => base ≤ k) (fun _ => False) rfl rfl ?aO ?aR (fun q cs hq => by rw [k127_open hq]; exact k127_mkM _ _ _ q) (fun _ h => h.elim) ?aF ?aB ?aS ?aL ?_; (case aR => exact HV.out); (case aB => exact HB.out); (case aF => exact (fun _ hk => Nat.le_trans HBS.out hk)); (case aO => exact HR.out); (case aS => exact HBS.out); (case aL => have := HL.out; have := HN.out; omega); intro v9 w9 ho hb9 hg9 hat9; have HO := Lib.hid ho; have HB9 := Lib.hid hb9; clear ho hb9 hg9 hat9)
   go_ret
   exact ⟨_, rfl, HO.out, HB9.out⟩
  ·have hcn2 := eq_false hcn
   go_enter Tryz.func132, Tryz.ntmps132
   go_wp2_with ((with_reducible refine gate_builtin (b := .append) (xs := #[.tmp 23, .tmp 24]) rfl ?_); at_builtin; refine Kd.R_append_rows k127 (Rr := k127.K w) (w0 := w) base rfl (.tmp 23) (.tmp 24) 31 127 (.agg #[(.string ⟨#[]⟩), (.string ⟨#[]⟩)]) 32 rfl Tryz.underlying31 info127 rfl (by decide) (by omega) (.slice (some ⟨g, 0, none⟩) n cap) l [p] _ _ _ (fun k => base ≤ k) (fun _ => False) rfl rfl ?aO ?aR (fun q cs hq => by rw [k127_open hq]; exact k127_mkM _ _ _ q) (fun _ h => h.elim) ?aF ?aB ?aS ?aL ?_; (case aR => exact HV.out); (case aB => exact HB.out); (case aF => exact (fun _ hk => Nat.le_trans HBS.out hk)); (case aO => exact HR.out); (case aS => exact HBS.out); (case aL => have := HL.out; have := HN.out; omega); intro v9 w9 ho hb9 hg9 hat9; have HO := Lib.hid ho; have HB9 := Lib.hid hb9; clear ho hb9 hg9 hat9)
   go_ret
   exact ⟨_, rfl, HO.out, HB9.out⟩
end Go.Proofs.YtddhkfdfhbpblaaGreatDoor.P
namespace Go.Proofs.YtddhkfdfhbpblaaGreatDoor.P
open Go.RowKit Go.Proofs.YtddhkfdfhbpblaaGreatDoorW.PrintWords Go.Proofs.YtddhkfdfhbpblaaGreatDoorW.PrintLast Go.Proofs.YtddhkfdfhbpblaaGreatDoorW.PrintMore
set_option linter.unusedVariables false
attribute [local go_sem] Oper.semAt_some
theorem zeroP_size (k : Nat) : (Builtin.zeroCells (Value.agg #[.string ⟨#[]⟩, .string ⟨#[]⟩]).cells k).size = k * 2 := by
 unfold Builtin.zeroCells
 rw [Array.size_map, Array.size_range]
 rfl
set_option maxRecDepth 100000 in
set_option maxHeartbeats 3200000 in
theorem insert_grow {w : World} {base g cap : Nat} {l : List PrQ} (h : Rw w base g cap l) (hbs : base ≤ w.heap.size) (i : Nat) (hi : i < l.length) (hroom : cap < l.length + 1) (hl : l.length < 1000000) (p : PrQ) (vb : Nat) (hvb : w.heap[vb]? = some (.cells #[.string p.f0, .string p.f1] 127 (0, 0))) :
  Calls Tryz.prog 132 #[.slice (some ⟨g, 0, none⟩) l.length cap, .int .i64 (i : Int), .slice (some ⟨vb, 0, none⟩) 1 1] w fun e w' => ∃ cap', e = .returned (.slice (some ⟨w.heap.size, 0, none⟩) (l.length + 1) cap') ∧ Rw w' base w.heap.size cap' (l.take i ++ p :: l.drop i) ∧ Below w.heap.size w w' := by
 have hu := Tryz.underlying31
 have hu2 := Tryz.underlying127
 have hui := Tryz.underlying3
 obtain ⟨cur, hh, hs, ht⟩ := h.row
 have hle := h.le
 obtain ⟨n, hn⟩ : ∃ n, l.length = n := ⟨_, rfl⟩
 have hsz : (Tryz.prog.info? 127).map (·.size) = some 2 := by kernel_rfl
 obtain ⟨i0, hi0, hz0, hzs, hzb⟩ : ∃ i0, Tryz.prog.info? 127 = some i0 ∧ i0.zero = some (.agg #[.string ⟨#[]⟩, .string ⟨#[]⟩]) ∧ i0.size = 2 ∧ i0.bytes = 32 := info_parts info127
 have hgw : g < w.heap.size := blk_lt hh
 have hvw : vb < w.heap.size := blk_lt hvb
 have hold : (Builtin.firstCells i0.size i (.slice (some ⟨g, 0, none⟩) i cap)).run Tryz.prog w.drew = .ok (flatP (l.take i)).toArray w.drew := by
  rw [hzs]
  exact run_firstCells_some w.drew 2 i ⟨g, 0, none⟩ i cap (flatP (l.take i)) (by rw [flatP_len, List.length_take]; omega) (fun j v hj => by
   rw [Addr.add_lit, Nat.zero_add]
   rw [← flatP_take, List.getElem?_take] at hj
   split at hj
   ·exact flat_cell hh ht j v hj
   ·cases hj)
 have hik : i + (n + 1 - i) = n + 1 := by omega
 have hkk : (n : Int) + 1 - (i : Int) = ((n + 1 - i : Nat) : Int) := by omega
 obtain ⟨G, hG⟩ : ∃ G, G = grownCap w (n + 1) cap 127 := ⟨_, rfl⟩
 obtain ⟨ROW, hROW⟩ : ∃ ROW : Array Value, ROW = (flatP (l.take i)).toArray ++ Builtin.zeroCells (Value.agg #[.string ⟨#[]⟩, .string ⟨#[]⟩]).cells (n + 1 - i) ++ Builtin.zeroCells (Value.agg #[.string ⟨#[]⟩, .string ⟨#[]⟩]).cells (G - (n + 1)) := ⟨_, rfl⟩
 have hrz : ∀ ty, (Builtin.append_ #[31, 3] ty #[.slice (some ⟨g, 0, none⟩) i cap, .int .i64 ((n : Int) + 1 - (i : Int))]).run Tryz.prog w = .ok (.slice (some ⟨w.heap.size, 0, none⟩) (n + 1) G) (w.drew.alloc (.cells ROW 127)) := fun ty => by
  have h := Lib.run_append_grow_zeros w 31 3 ty 127 i0 _ .i64 .i64 hu hui hi0 hz0 (some ⟨g, 0, none⟩) i cap (flatP (l.take i)) hold (n + 1 - i) (by omega) (by omega) (by omega) (by omega) (by rw [hzb]; omega) (by rw [hzb, hik]; exact growslice_fits (by omega) (by omega))
  rw [hik] at h
  rw [hkk, hG, hROW, hG]
  exact h
 have hGn : n + 1 ≤ G := by rw [hG]; exact grownCap_ge w _ _ _
 have hG63 : G ≤ maxLen := by rw [hG]; exact grownCap_le_maxLen w (n + 1) cap 127 (by unfold maxLen; omega)
 have hRs : ROW.size = G * 2 := by
  rw [hROW, Array.size_append, Array.size_append, zeroP_size, zeroP_size, List.size_toArray, flatP_len, List.length_take]
  omega
 obtain ⟨W1, hW1⟩ : ∃ W1, W1 = w.drew.alloc (.cells ROW 127) := ⟨_, rfl⟩
 have hhN : W1.heap[w.heap.size]? = some (.cells ROW 127 (0, 0)) := by rw [hW1]; exact heap_alloc_new w.drew _
 have hold1 : ∀ k, k < w.heap.size → W1.heap[k]? = w.heap[k]? := fun k hk => by
  rw [hW1]
  exact (Below.refl w.heap.size w.drew).alloc (Nat.le_refl _) _ |>.block k hk
 have hh1 : W1.heap[g]? = some (.cells cur 127 (0, 0)) := (hold1 g hgw).trans hh
 have hvb1 : W1.heap[vb]? = some (.cells #[.string p.f0, .string p.f1] 127 (0, 0)) := (hold1 vb hvw).trans hvb
 obtain ⟨ROW2, hROW2⟩ : ∃ ROW2 : Array Value, ROW2 = (ROW.toList.take (i * 2) ++ [Value.string p.f0, Value.string p.f1] ++ ROW.toList.drop (i * 2 + 2)).toArray := ⟨_, rfl⟩
 have hcpA : ∀ (W : World), W.heap = W1.heap → ∀ ty dc, (Builtin.copy_ #[31, 31] ty #[.slice (some ⟨w.heap.size, i * 2, none⟩) (n + 1 - i) dc, .slice (some ⟨vb, 0, none⟩) 1 1]).run Tryz.prog W = .ok (goInt 1) (W.setCells w.heap.size (i * 2) [.string p.f0, .string p.f1]) := fun W hW ty dc =>
  run_copy_k W _ _ ty 127 2 w.heap.size (i * 2) (n + 1 - i) dc ⟨vb, 0, none⟩ 1 1 1 [.string p.f0, .string p.f1] hu hsz (by simp only [Nat.min_def]; split <;> omega) rfl
   (fun j v hj => by rw [Addr.add_lit, Nat.zero_add, blk_cell (w := W) (by rw [hW]; exact hvb1), ← Array.getElem?_toList]; exact hj)
   (fun j hj => by
    have : [Value.string p.f0, Value.string p.f1].length = 2 := rfl
    rw [blk_cell (w := W) (by rw [hW]; exact hhN), Array.getElem?_eq_getElem (by omega)]; rfl) (fun j hj => blk_frozen (w := W) (by rw [hW]; exact hhN) _) (by simp [Value.oneCell'])
 obtain ⟨mv, hmv⟩ : ∃ mv, mv = flatP (l.drop i) := ⟨_, rfl⟩
 have hml : mv.length = (n - i) * 2 := by rw [hmv, flatP_len, List.length_drop, hn]
 obtain ⟨W2, hW2⟩ : ∃ W2, W2 = W1.setCells w.heap.size (i * 2) [.string p.f0, .string p.f1] := ⟨_, rfl⟩
 have hhN2 : W2.heap[w.heap.size]? = some (.cells ROW2 127 (0, 0)) := by
  rw [hW2]
  exact blk_part (cells := #[.string p.f0, .string p.f1]) hhN (by simp [hRs]; omega) (by rw [hROW2]; rfl)
 have hR2s : ROW2.size = G * 2 := by
  rw [hROW2]
  simp only [List.size_toArray, List.length_append, List.length_take, List.length_drop, Array.length_toList, hRs, List.length_cons, List.length_nil]
  omega
 have hh2 : W2.heap[g]? = some (.cells cur 127 (0, 0)) := by rw [hW2, setCells_far _ _ _ _ g (by omega)]; exact hh1
 have hcpB : ∀ (W : World), W.heap = W2.heap → ∀ ty dc sc, (Builtin.copy_ #[31, 31] ty #[.slice (some ⟨w.heap.size, (i + 1) * 2, none⟩) (n - i) dc, .slice (some ⟨g, i * 2, none⟩) (n - i) sc]).run Tryz.prog W = .ok (goInt ((n - i : Nat) : Int)) (W.setCells w.heap.size ((i + 1) * 2) mv) := fun W hW ty dc sc =>
  run_copy_k W _ _ ty 127 2 w.heap.size ((i + 1) * 2) (n - i) dc ⟨g, i * 2, none⟩ (n - i) sc (n - i) mv hu hsz (by simp only [Nat.min_def]; split <;> omega) hml
   (fun j v hj => by
    rw [Addr.add_lit]
    have := flat_rest hh ht i j v (by rw [← hmv]; exact hj)
    rw [blk_cell (w := W) (by rw [hW]; exact hh2)]
    rw [blk_cell hh] at this
    exact this)
   (fun j hj => by rw [blk_cell (w := W) (by rw [hW]; exact hhN2), Array.getElem?_eq_getElem (by omega)]; rfl)
   (fun j hj => blk_frozen (w := W) (by rw [hW]; exact hhN2) _) (by rw [hmv]; exact flatP_one _)
 have hfin : Hid (∀ W : World, W.heap = W2.heap → W.os = W2.os → W.tape = W2.tape → W.output = W2.output → Rw (W.setCells w.heap.size ((i + 1) * 2) mv) base w.heap.size G (l.take i ++ p :: l.drop i) ∧ Below w.heap.size w (W.setCells w.heap.size ((i + 1) * 2) mv)) := by
  intro W e1 e2 e3 e4
  have hl2 : (l.take i ++ p :: l.drop i).length = n + 1 := by simp [hn]; omega
  refine ⟨⟨hbs, ⟨_, blk_part (w := W) (cells := mv.toArray) (by rw [e1]; exact hhN2) (by simp [hR2s, hml]; omega) rfl, ?_, ?_⟩, by rw [hl2]; exact hGn, hG63⟩, ?_⟩
  ·simp [hR2s, hml]; omega
  ·rw [hl2, flatP_app, flatP_cons, ← hmv]
   simp only [List.toList_toArray, List.size_toArray]
   have hA : (flatP (l.take i)).length = i * 2 := by rw [flatP_len, List.length_take]; omega
   have hR : ROW.toList.take (i * 2) = flatP (l.take i) := by
    rw [hROW, Array.toList_append, Array.toList_append, List.toList_toArray, List.append_assoc]
    exact take_len_app _ _ _ hA
   have hR2 : ROW2.toList.take ((i + 1) * 2) = flatP (l.take i) ++ [.string p.f0, .string p.f1] := by
    rw [hROW2, hR]
    simp only [List.toList_toArray]
    exact take_len_app _ _ _ (by rw [List.length_append, hA]; simp; omega)
   rw [hR2]
   rw [take_len_app _ _ _ (by simp only [List.length_append, hA, hml, List.length_cons, List.length_nil]; omega)]
   simp
  ·have hb1 : Below w.heap.size w W1 := by rw [hW1]; exact (Below.refl w.heap.size w.drew).alloc (Nat.le_refl _) _ |> fun hx => ⟨hx.os, hx.tape, hx.output, hx.size, hx.block⟩
   have hb2 : Below w.heap.size w W2 := by rw [hW2]; exact setCells_below _ _ (Nat.le_refl _) _ _ _ hb1
   have hb3 : Below w.heap.size w W := ⟨by rw [e2]; exact hb2.os, by rw [e3]; exact hb2.tape, by rw [e4]; exact hb2.output, by rw [e1]; exact hb2.size, fun k hk => by rw [e1]; exact hb2.block k hk⟩
   exact setCells_below _ _ (Nat.le_refl _) _ _ _ hb3
 have hz2 : ¬ ((i : Int) = (n : Int)) := by omega
 have hz3 : (cap : Int) < (n : Int) + 1 := by omega
 have hw1 : IntKind.i64.wrap ((i : Int) + 1) = (i : Int) + 1 := by rw [IntKind.wrap_i64]; omega
 have hw2 : IntKind.i64.wrap ((n : Int) + 1) = (n : Int) + 1 := by rw [IntKind.wrap_i64]; omega
 have hb1 : (0 : Int) ≤ (i : Int) + 1 := by omega
 have hin : i ≤ n := by omega
 have htn : ((i : Int) + 1).toNat = i + 1 := by omega
 have hb3 : (i : Int) ≤ (n : Int) := by omega
 have hGi : ¬ (G = i) := by omega
 have hGim : ¬ (G = i + 1) := by omega
 have hci : ¬ (cap = i) := by omega
 rw [hn] at hroom hi hl hle ⊢
 subst hW1
 subst hW2
 have hE1 : ((w.alloc (.cells ROW 127)).drew).heap = (w.drew.alloc (.cells ROW 127)).heap := rfl
 have hF1 : (((w.alloc (.cells ROW 127)).drew.setCells w.heap.size (i * 2) [Value.string p.f0, Value.string p.f1]).drew).heap = ((w.drew.alloc (.cells ROW 127)).setCells w.heap.size (i * 2) [Value.string p.f0, Value.string p.f1]).heap := rfl
 clear hRs hhN hold1 hh1 hvb1 hROW2 hhN2 hR2s hh2 hml hmv hROW hG hold hi0 hz0 hzs hzb hkk hik hs ht hh hvb h hn hGn hG63
 have mixed : Tryz.prog.follows Departure.mixedOrders = true := by kernel_rfl
 go_enter Tryz.func132, Tryz.ntmps132
 go_wp2_with (first
  | (at_builtin; refine Lib.wpList_append_run _ rfl _ _ _ _ rfl _ _ rfl rfl _ _ (hrz _) ?_)
  | (at_builtin; refine wpList_copy_run _ rfl _ _ 31 31 rfl _ _ rfl rfl (hcpA _ hE1 _ _) ?_))
 go_region_law_o (refine step_copy_run rfl _ _ 31 31 rfl (.slice (some ⟨w.heap.size, (i + 1) * 2, none⟩) (n - i) (G - (i + 1))) (.slice (some ⟨g, i * 2, none⟩) (n - i) (cap - i)) (by simp [Act.eval, Act.put]) (by simp [Act.eval, Act.put]) (hcpB _ hF1 3 (G - (i + 1)) (cap - i)) ?_)
 go_wp2
 go_ret
 exact ⟨_, rfl, hfin.out _ rfl rfl rfl rfl⟩
end Go.Proofs.YtddhkfdfhbpblaaGreatDoor.P
namespace Go.Proofs.YtddhkfdfhbpblaaGreatDoor.P
open Go.RowKit Go.Proofs.YtddhkfdfhbpblaaGreatDoorW.PrintWords Go.Proofs.YtddhkfdfhbpblaaGreatDoorW.PrintLast Go.Proofs.YtddhkfdfhbpblaaGreatDoorW.PrintMore
set_option linter.unusedVariables false
attribute [local go_sem] Oper.semAt_some
abbrev RO (w : World) (base : Nat) (v : Value) (l : List PrQ) : Prop := Kd.R k127 127 w base (fun k => base ≤ k) v l
theorem RO.reads {w : World} {base : Nat} {v : Value} {l : List PrQ} (h : RO w base v l) : ∃ A c, v = .slice A l.length c ∧ l.length ≤ c ∧ Kd.C k127 w A l.length l := Kd.R_reads h
theorem srch_le (q : ByteArray) (l : List PrQ) (n : Nat) : ∀ (f i j : Nat), i ≤ n → j ≤ n → srch q l f i j ≤ n
 | 0, i, j, h, _ => h
 | f + 1, i, j, h1, h2 => by
  unfold srch
  split
  ·split
   ·exact srch_le q l n f _ _ (by omega) h2
   ·exact srch_le q l n f _ _ h1 (by omega)
  ·exact h1
theorem Rw.put {w w' : World} {base g cap : Nat} {l : List PrQ} (h : Rw w base g cap l) (i : Nat) (hi : i < l.length) (p : PrQ)
  (hw : ∀ cur : Array Value, w.heap[g]? = some (.cells cur 127 (0, 0)) → w'.heap[g]? = some (.cells (cur.toList.take (i * 2) ++ [Value.string p.f0, Value.string p.f1] ++ cur.toList.drop (i * 2 + 2)).toArray 127 (0, 0))) : Rw w' base g cap (l.set i p) := by
 obtain ⟨cur, hh, hs, ht⟩ := h.row
 have hle := h.le
 refine ⟨h.ge, ⟨_, hw cur hh, ?_, ?_⟩, by rw [List.length_set]; exact h.le, h.max⟩
 ·simp only [List.size_toArray, List.length_append, List.length_take, List.length_drop, Array.length_toList, List.length_cons, List.length_nil, hs]
  omega
 ·obtain ⟨A, hA⟩ : ∃ A, cur.toList.take (i * 2) = A := ⟨_, rfl⟩
  have hAl : A.length = i * 2 := by rw [← hA, List.length_take, Array.length_toList (xs := cur), hs]; omega
  have hA2 : A = flatP (l.take i) := by
   rw [← flatP_take, ← ht, List.take_take, Nat.min_eq_left (by omega), hA]
  have hD : (cur.toList.drop (i * 2 + 2)).take ((l.length - (i + 1)) * 2) = flatP (l.drop (i + 1)) := by
   rw [← flatP_drop, ← ht, show (i + 1) * 2 = i * 2 + 2 by omega, List.drop_take]
   congr 1
   omega
  rw [List.length_set, List.set_eq_take_append_cons_drop, if_pos hi, flatP_app, flatP_cons, hA, ← hA2, ← hD]
  show ((A ++ [Value.string p.f0, Value.string p.f1]) ++ cur.toList.drop (i * 2 + 2)).take (l.length * 2) = _
  rw [List.take_append, List.take_of_length_le (by rw [List.length_append, hAl]; simp; omega), List.length_append, hAl]
  simp only [List.length_cons, List.length_nil, List.append_assoc, List.cons_append, List.nil_append]
  rw [show l.length * 2 - (i * 2 + (0 + 1 + 1)) = (l.length - (i + 1)) * 2 by omega]
set_option maxRecDepth 100000 in
set_option maxHeartbeats 6400000 in
theorem lay_calls {w : World} {base : Nat} {v : Value} {l : List PrQ} (h : RO w base v l) (hb : base ≤ w.heap.size) (hl : l.length < 1000000) (p : PrQ) :
  Calls Tryz.prog 98 #[v, .agg #[.string p.f0, .string p.f1]] w fun e w' => ∃ v', e = .returned v' ∧ RO w' base v' (layL l p) ∧ Below base w w' := by
 have hu127 := Tryz.underlying127
 have hbw := below_alloc (Below.refl w.heap.size w) (.cells #[.string p.f0, .string p.f1] 127)
 have HP := Lib.hid (heap_alloc_new w (.cells #[.string p.f0, .string p.f1] 127))
 have HB := Lib.hid (Below.mono hbw hb)
 have hR := Kd.R_below h hbw
 obtain ⟨A, c, rfl, hc, hC⟩ := RO.reads hR
 have HBK := Lib.hid (bykey_calls p.f0 A c l _ hC hc (by omega))
 have HR := Lib.hid hR
 have HS := Lib.hid (show base ≤ w.heap.size from hb)
 have HL := Lib.hid hl
 obtain ⟨L, hLL⟩ : ∃ L, layL l p = L := ⟨_, rfl⟩
 rw [hLL]
 have HPG : Hid (∀ g cap, A = some ⟨g, 0, none⟩ → Rw w base g cap l → g ≠ w.heap.size) := Lib.hid (fun g cap _ hr => by
  obtain ⟨cur, hh, _⟩ := hr.row
  exact Nat.ne_of_lt (blk_lt hh))
 have HR0 := Lib.hid h
 unfold layL at hLL
 obtain ⟨i, hi⟩ : ∃ i, srch p.f0 l (l.length + 1) 0 l.length = i := ⟨_, rfl⟩
 have hiu : i ≤ l.length := by rw [← hi]; exact srch_le p.f0 l l.length _ _ _ (Nat.zero_le _) (Nat.le_refl _)
 obtain ⟨is, his⟩ : ∃ is, hasL l p.f0 i = is := ⟨_, rfl⟩
 rw [hi, his] at hLL
 unfold hasL at his
 rw [hi, his] at HBK
 have hile : is = true → i < l.length := fun hx => by
  rw [hx] at his
  rcases Nat.lt_or_ge i l.length with h1 | h1
  ·exact h1
  ·rw [if_neg (by omega)] at his; cases his
 have HIS := Lib.hid hile
 have HIU := Lib.hid hiu
 have HLL := Lib.hid hLL
 clear h hR hC hc hb hl his hi hile hiu hbw hLL
 go_enter Tryz.func98, Tryz.ntmps98
 go_wp2_with fail
 refine HBK.out.mono ?_
 rintro e w1 ⟨rfl, hb1⟩
 have HP0 := HP
 replace HB := Lib.hid (HB.out.trans (Below.mono hb1 (Nat.le_trans HS.out HB.out.size)))
 replace HP := Lib.hid (blk_below HP.out hb1)
 replace HR := Lib.hid (Kd.R_below HR.out hb1)
 have HS1 := Lib.hid (Nat.le_trans HS.out HB.out.size)
 clear hb1 HBK HP0
 have hc0 := blk_cell HP.out 0
 have hc1 := blk_cell HP.out 1
 cases he : (p.f1.toList == []) with
 | true =>
  rw [he, if_pos rfl] at HLL
  cases is with
  | true =>
   have hL := HLL.out
   rw [if_pos rfl] at hL
   subst hL
   have hi := HIS.out rfl
   rcases Rw.of_R HR.out with ⟨_, e⟩ | ⟨g, cap, he2, hrw, hok⟩
   ·rw [e] at hi; exact absurd hi (by simp)
   ·injection he2 with e1 _ e3
    subst e1
    subst e3
    have HD := Lib.hid (delete_calls hrw i (i + 1) rfl hi)
    have HI := Lib.hid (show wrap64 ((i : Int) + 1) = ((i + 1 : Nat) : Int) by have := HL.out; rw [show (i : Int) + 1 = ((i + 1 : Nat) : Int) by omega, w64n _ (by omega)])
    have HOK := Lib.hid hok
    have HIL := Lib.hid hi
    clear hrw hok hi HLL
    go_wp2_with fail
    rw [HI.out]
    refine HD.out.mono ?_
    rintro e w2 ⟨rfl, hr2, hg2⟩
    have hlen : (l.eraseIdx i).length = l.length - 1 := by rw [List.length_eraseIdx, if_pos HIL.out]
    have HF : Hid (RO w2 base (.slice (some ⟨g, 0, none⟩) (l.length - 1) c) (l.eraseIdx i)) := Lib.hid (by have := hr2.to_R (fun k => base ≤ k) HOK.out; rw [hlen] at this; exact this)
    have HBF := Lib.hid (below_grown HB.out hg2 HOK.out HB.out.size HS.out)
    clear hr2 hg2 hlen
    go_wp2
    go_ret
    exact ⟨_, rfl, HF.out, HBF.out⟩
  | false =>
   have hL := HLL.out
   rw [if_neg (by decide)] at hL
   subst hL
   clear HLL
   go_wp2
   go_ret
   exact ⟨_, rfl, HR.out, HB.out⟩
 | false =>
  rw [he, if_neg (by decide)] at HLL
  cases is with
  | true =>
   have hL := HLL.out
   rw [if_pos rfl] at hL
   subst hL
   have hi := HIS.out rfl
   rcases Rw.of_R HR.out with ⟨_, e⟩ | ⟨g, cap, he2, hrw, hok⟩
   ·rw [e] at hi; exact absurd hi (by simp)
   ·injection he2 with e1 _ e3
    subst e1
    subst e3
    have HRW := Lib.hid hrw
    have HOK := Lib.hid hok
    have HIL := Lib.hid hi
    have h0 : ((0 : Int) ≤ (i : Int)) = True := eq_true (by omega)
    have h1 : ((i : Int) < (l.length : Int)) = True := eq_true (by omega)
    clear hrw hok hi HLL
    obtain ⟨cur, hh, hs, ht⟩ := HRW.out.row
    have HH := Lib.hid hh
    have HDD := Lib.hid (decide_eq_true (show i * 2 + (#[Value.string p.f0, Value.string p.f1] : Array Value).size ≤ cur.size by rw [hs]; have := HRW.out.le; have := HIL.out; show i * 2 + 2 ≤ _; omega))
    have HALL : Hid ((#[Value.string p.f0, Value.string p.f1] : Array Value).all (·.oneCell') = true) := Lib.hid (by simp [Value.oneCell'])
    have HCS : Hid ((cur.toList.take (i * 2) ++ [Value.string p.f0, Value.string p.f1] ++ cur.toList.drop (i * 2 + 2)).toArray = (cur.toList.take (i * 2) ++ (#[Value.string p.f0, Value.string p.f1] : Array Value).toList ++ cur.toList.drop (i * 2 + (#[Value.string p.f0, Value.string p.f1] : Array Value).size)).toArray) := Lib.hid rfl
    clear hh hs ht
    go_wp2_with ((with_reducible refine wpList_store_part rfl 127 (.tmp 36) (.tmp 35) rfl g (i * 2) #[Value.string p.f0, Value.string p.f1] rfl rfl HH.out HDD.out (by kernel_rfl) HALL.out (cur.toList.take (i * 2) ++ [Value.string p.f0, Value.string p.f1] ++ cur.toList.drop (i * 2 + 2)).toArray HCS.out ?_); intro w3 h1 h2 h3 h4; have HF : Hid (Rw w3 base g c (l.set i p)) := Lib.hid (HRW.out.put i HIL.out p (fun c2 hc2 => by rw [HH.out] at hc2; injection hc2 with e; injection e with e; subst e; exact h1)); have HBF := Lib.hid (h4 _ _ HOK.out HB.out); clear h1 h2 h3 h4)
    go_ret
    exact ⟨_, rfl, by have := HF.out.to_R (fun k => base ≤ k) HOK.out; rw [List.length_set] at this; exact this, HBF.out⟩
  | false =>
   have hL := HLL.out
   rw [if_neg (by decide)] at hL
   subst hL
   clear HLL
   have hbw := below_alloc (Below.refl w1.heap.size w1) (.cells #[.string p.f0, .string p.f1] 127)
   have hR1 := Kd.R_below HR.out hbw
   have HV := Lib.hid (heap_alloc_new w1 (.cells #[.string p.f0, .string p.f1] 127))
   have HB1 := Lib.hid (HB.out.trans (Below.mono hbw HS1.out))
   by_cases hil : i = l.length
   ·subst hil
    have HI := Lib.hid (insert_end hR1 (Nat.le_trans HS.out HB1.out.size) HL.out p w1.heap.size HV.out)
    clear hR1 hbw
    go_wp2_with fail
    refine HI.out.mono ?_
    rintro e w2 ⟨v2, rfl, hr2, hb2⟩
    have HF := Lib.hid hr2
    have HBF := Lib.hid (HB1.out.trans hb2)
    clear hr2 hb2
    go_wp2
    go_ret
    exact ⟨_, rfl, by rw [List.take_length, List.drop_length]; exact HF.out, HBF.out⟩
   ·have hi : i < l.length := by have := HIU.out; omega
    have HIL := Lib.hid hi
    rcases Rw.of_R hR1 with ⟨_, e⟩ | ⟨g, cap, he2, hrw, hok⟩
    ·rw [e] at hi; exact absurd hi (by simp)
    ·injection he2 with e1 _ e3
     subst e1
     subst e3
     have HOK := Lib.hid hok
     have hgne : w1.heap.size ≠ g := by
      rcases Rw.of_R HR.out with ⟨_, e⟩ | ⟨g2, cap2, he3, hrw2, _⟩
      ·rw [e] at hi; exact absurd hi (by simp)
      ·injection he3 with e4 _ _
       injection e4 with e4
       injection e4 with e4
       subst e4
       obtain ⟨cur, hh, _⟩ := hrw2.row
       exact fun e => by have := blk_lt hh; omega
     have hlen : (l.take i ++ p :: l.drop i).length = l.length + 1 := by simp; omega
     have HLN := Lib.hid hlen
     by_cases hroom : l.length + 1 ≤ c
     ·have HI := Lib.hid (insert_shift hrw i hi hroom p w1.heap.size HV.out hgne)
      clear hrw hok hi hgne hlen hroom hR1 hbw hil
      go_wp2_with fail
      refine HI.out.mono ?_
      rintro e w2 ⟨rfl, hr2, hg2⟩
      have HF : Hid (RO w2 base (.slice (some ⟨g, 0, none⟩) (l.length + 1) c) (l.take i ++ p :: l.drop i)) := Lib.hid (by have := hr2.to_R (fun k => base ≤ k) HOK.out; rw [HLN.out] at this; exact this)
      have HBF := Lib.hid (below_grown HB1.out hg2 HOK.out HB1.out.size HS.out)
      clear hr2 hg2
      go_wp2
      go_ret
      exact ⟨_, rfl, HF.out, HBF.out⟩
     ·have HI := Lib.hid (insert_grow hrw (Nat.le_trans HS.out HB1.out.size) i hi (by omega) HL.out p w1.heap.size HV.out)
      clear hrw hok hi hgne hlen hroom hR1 hbw hil
      go_wp2_with fail
      refine HI.out.mono ?_
      rintro e w2 ⟨cap', rfl, hr2, hb2⟩
      have HF : Hid (RO w2 base (.slice (some ⟨w1.heap.size + 1, 0, none⟩) (l.length + 1) cap') (l.take i ++ p :: l.drop i)) := Lib.hid (by have := hr2.to_R (fun k => base ≤ k) (Nat.le_trans HS.out HB1.out.size); rw [HLN.out, show (w1.alloc (.cells #[.string p.f0, .string p.f1] 127)).heap.size = w1.heap.size + 1 from Array.size_push ..] at this; exact this)
      have HBF := Lib.hid (HB1.out.trans (Below.mono hb2 (Nat.le_trans HS.out HB1.out.size)))
      clear hr2 hb2
      go_wp2
      go_ret
      exact ⟨_, rfl, HF.out, HBF.out⟩
end Go.Proofs.YtddhkfdfhbpblaaGreatDoor.P
namespace Go.Proofs.YtddhkfdfhbpblaaGreatDoor.P
open Go.RowKit Go.Proofs.YtddhkfdfhbpblaaGreatDoorW.PrintWords Go.Proofs.YtddhkfdfhbpblaaGreatDoorW.PrintLast Go.Proofs.YtddhkfdfhbpblaaGreatDoorW.PrintMore
set_option linter.unusedVariables false
attribute [local go_sem] Oper.semAt_some
theorem layL_len (l : List PrQ) (p : PrQ) : (layL l p).length ≤ l.length + 1 := by
 unfold layL
 split
 ·split
  ·have := List.length_eraseIdx_le l (srch p.f0 l (l.length + 1) 0 l.length); omega
  ·omega
 ·split
  ·rw [List.length_set]; omega
  ·simp; omega
theorem drop_rd (l : List PrQ) (n : Nat) (h : n < l.length) : l.drop n = rd_T127 l (n : Int) :: l.drop (n + 1) := by
 rw [List.drop_eq_getElem_cons h]
 congr 1
 unfold rd_T127
 rw [Int.toNat_natCast, List.getD_eq_getElem?_getD, List.getElem?_eq_getElem h]
 rfl
set_option maxRecDepth 100000 in
set_option maxHeartbeats 6400000 in
theorem Lay_calls (A0 : Option Addr) (c0 : Nat) (l0 : List PrQ) (A1 : Option Addr) (c1 : Nat) (l1 : List PrQ) (w : World) (hr0 : Kd.C k127 w A0 l0.length l0) (hc0 : l0.length ≤ c0) (hr1 : Kd.C k127 w A1 l1.length l1) (hc1 : l1.length ≤ c1) (hl : l0.length + l1.length < 1000000) :
  Calls Tryz.prog 63 #[.slice A0 l0.length c0, .slice A1 l1.length c1] w fun e w' => ∃ v', e = .returned v' ∧ RO w' w.heap.size v' (layP l0 l1) ∧ Below w.heap.size w w' := by
 have hu127 := Tryz.underlying127
 have HR0 := Aside0.mk hr0
 have HR1 := Aside0.mk hr1
 have HL := Lib.hid hl
 obtain ⟨M, hM⟩ : ∃ M, l0.foldl layL [] = M := ⟨_, rfl⟩
 obtain ⟨R, hR⟩ : ∃ R, l1.foldl layL M = R := ⟨_, rfl⟩
 have hP : layP l0 l1 = R := by unfold layP; rw [hM, hR]
 rw [hP]
 have HFM := Lib.hid hM
 have HFR := Lib.hid hR
 clear hr0 hc0 hr1 hc1 hl hM hR hP
 go_enter Tryz.func63, Tryz.ntmps63
 go_wp2_with fail
 go_loopg [12, 5] (l0.length) (fun gk v12 v5 wr => ∃ (x : Int), v12 = .int .i64 x ∧ Aside0 (∃ (n : Nat) (acc : List PrQ), x = (n : Int) ∧ n + gk = l0.length ∧ (l0.drop n).foldl layL acc = M ∧ acc.length ≤ n ∧ RO wr w.heap.size v5 acc ∧ Below w.heap.size w wr))
 case atStart => exact ⟨0, rfl, ⟨0, [], rfl, by omega, HFM.out, Nat.le_refl _, Kd.R_nil _ _ _ _ _, Below.refl _ _⟩⟩
 case round =>
  clear HFM
  obtain ⟨x, rfl, HN⟩ := hrel
  obtain ⟨n, acc, hx, hn, hk, hle, ha, hb⟩ := HN.out
  cases gk with
  | zero =>
   have hlt : decide (x < (l0.length : Int)) = false := by
    simp; omega
   have hres : acc = M := by
    rw [← hk, List.drop_eq_nil_of_le (by omega)]
    rfl
   subst hres
   have HA := Lib.hid ha
   have HB := Lib.hid hb
   have HAL := Lib.hid (show acc.length ≤ l0.length by omega)
   clear hx hn hk hle ha hb HN
   go_wp2_with fail
   go_loopg [22, 5] (l1.length) (fun gk v22 v5 wr => ∃ (x : Int), v22 = .int .i64 x ∧ Aside0 (∃ (n : Nat) (acc2 : List PrQ), x = (n : Int) ∧ n + gk = l1.length ∧ (l1.drop n).foldl layL acc2 = R ∧ acc2.length ≤ l0.length + n ∧ RO wr w.heap.size v5 acc2 ∧ Below w.heap.size w wr))
   case atStart => exact ⟨0, rfl, ⟨0, acc, rfl, by omega, HFR.out, by have := HAL.out; omega, HA.out, HB.out⟩⟩
   case round =>
    clear HFR HA HB HAL
    obtain ⟨x, rfl, HN⟩ := hrel
    obtain ⟨n, acc2, hx, hn, hk, hle, ha, hb⟩ := HN.out
    cases gk with
    | zero =>
     have hlt : decide (x < (l1.length : Int)) = false := by
      simp; omega
     have hres : acc2 = R := by
      rw [← hk, List.drop_eq_nil_of_le (by omega)]
      rfl
     subst hres
     have HA := Lib.hid ha
     have HB := Lib.hid hb
     clear hx hn hk hle ha hb HN
     go_wp2
     go_ret
     exact ⟨_, rfl, HA.out, HB.out⟩
    | succ kk =>
     have hi : n < l1.length := by omega
     have h0 : (0 : Int) ≤ x := by omega
     have h1 : x < (l1.length : Int) := by omega
     have hlt : decide (x < (l1.length : Int)) = true := decide_eq_true h1
     obtain ⟨ad, hAd, hx0, hx1⟩ := at_T127 HR1.out x h0 h1
     replace hx0 := (hb.cell (World.block_lt_of_cell? w _ hx0)).trans hx0
     replace hx1 := (hb.cell (World.block_lt_of_cell? w _ hx1)).trans hx1
     have hget := drop_rd l1 n hi
     rw [← hx] at hget
     obtain ⟨p, hp⟩ : ∃ p, rd_T127 l1 x = p := ⟨_, rfl⟩
     rw [hp] at hget hx0 hx1
     rw [hget, List.foldl_cons] at hk
     have hw : wrap64 (x + 1) = ((n + 1 : Nat) : Int) := by
      have := HL.out
      rw [hx, show (n : Int) + 1 = ((n + 1 : Nat) : Int) by omega, w64n _ (by omega)]
     subst hAd
     have hbw := below_alloc (Below.refl wr.heap.size wr) (.cells #[.string p.f0, .string p.f1] 127)
     have HW := Lib.hid hw
     have HNN := Lib.hid (show n + 1 + kk = l1.length ∧ acc2.length ≤ l0.length + n from ⟨by omega, hle⟩)
     have HK := Lib.hid hk
     have HP := Lib.hid (heap_alloc_new wr (.cells #[.string p.f0, .string p.f1] 127))
     have HB := Lib.hid (hb.trans (Below.mono hbw hb.size))
     have HC := Lib.hid (lay_calls (Kd.R_below ha hbw) HB.out.size (show acc2.length < 1000000 by have := HL.out; omega) p)
     have hgw := eq_true h0
     have hgw2 := eq_true h1
     clear hget hx hn hk hi HN ha hb hle hp hw h0 h1 hbw
     go_wp2_with ((with_reducible refine wpList_load_blk rfl 127 (.tmp 9) rfl wr.heap.size rfl HP.out _ Tryz.underlying127 rfl (by kernel_rfl) ?_))
     refine HC.out.mono ?_
     rintro e w2 ⟨v2, rfl, hr2, hb2⟩
     have HR2 := Lib.hid hr2
     have HB2 := Lib.hid (HB.out.trans hb2)
     clear hr2 hb2 HC hx0 hx1
     go_wp2_with fail
     go_roundg kk
     case measure => omega
     case rel => exact ⟨_, rfl, ⟨n + 1, _, HW.out, HNN.out.1, HK.out, by have := layL_len acc2 p; have := HNN.out.2; omega, HR2.out, HB2.out⟩⟩
  | succ kk =>
   have hi : n < l0.length := by omega
   have h0 : (0 : Int) ≤ x := by omega
   have h1 : x < (l0.length : Int) := by omega
   have hlt : decide (x < (l0.length : Int)) = true := decide_eq_true h1
   obtain ⟨ad, hAd, hx0, hx1⟩ := at_T127 HR0.out x h0 h1
   replace hx0 := (hb.cell (World.block_lt_of_cell? w _ hx0)).trans hx0
   replace hx1 := (hb.cell (World.block_lt_of_cell? w _ hx1)).trans hx1
   have hget := drop_rd l0 n hi
   rw [← hx] at hget
   obtain ⟨p, hp⟩ : ∃ p, rd_T127 l0 x = p := ⟨_, rfl⟩
   rw [hp] at hget hx0 hx1
   rw [hget, List.foldl_cons] at hk
   have hw : wrap64 (x + 1) = ((n + 1 : Nat) : Int) := by
    have := HL.out
    rw [hx, show (n : Int) + 1 = ((n + 1 : Nat) : Int) by omega, w64n _ (by omega)]
   subst hAd
   have hbw := below_alloc (Below.refl wr.heap.size wr) (.cells #[.string p.f0, .string p.f1] 127)
   have HW := Lib.hid hw
   have HNN := Lib.hid (show n + 1 + kk = l0.length ∧ acc.length ≤ n from ⟨by omega, hle⟩)
   have HK := Lib.hid hk
   have HP := Lib.hid (heap_alloc_new wr (.cells #[.string p.f0, .string p.f1] 127))
   have HB := Lib.hid (hb.trans (Below.mono hbw hb.size))
   have HC := Lib.hid (lay_calls (Kd.R_below ha hbw) HB.out.size (show acc.length < 1000000 by have := HL.out; omega) p)
   have hgw := eq_true h0
   have hgw2 := eq_true h1
   clear hget hx hn hk hi HN ha hb hle hp hw h0 h1 hbw
   go_wp2_with ((with_reducible refine wpList_load_blk rfl 127 (.tmp 7) rfl wr.heap.size rfl HP.out _ Tryz.underlying127 rfl (by kernel_rfl) ?_))
   refine HC.out.mono ?_
   rintro e w2 ⟨v2, rfl, hr2, hb2⟩
   have HR2 := Lib.hid hr2
   have HB2 := Lib.hid (HB.out.trans hb2)
   clear hr2 hb2 HC hx0 hx1
   go_wp2_with fail
   go_roundg kk
   case measure => omega
   case rel => exact ⟨_, rfl, ⟨n + 1, _, HW.out, HNN.out.1, HK.out, by have := layL_len acc p; have := HNN.out.2; omega, HR2.out, HB2.out⟩⟩
end Go.Proofs.YtddhkfdfhbpblaaGreatDoor.P
namespace Go.Proofs.YtddhkfdfhbpblaaGreatDoor.P
open Go.RowKit Go.Proofs.YtddhkfdfhbpblaaGreatDoorW.PrintWords Go.Proofs.YtddhkfdfhbpblaaGreatDoorW.PrintLast Go.Proofs.YtddhkfdfhbpblaaGreatDoorW.PrintMore
set_option linter.unusedVariables false
attribute [local go_sem] Oper.semAt_some
theorem st_bsliceN {P : Program} {ops : Array Oper} {oi : Oper} {a : Act} {w : World} {Q : Exit → Act → World → Prop} {K : Act → World → Prop} {N : Tmp} (n : Nat) (cs : Array Value) (e : TypeId)
  (h : K (a.put (some N) (.slice (some ⟨w.heap.size, 0, none⟩) n n)) (w.alloc (.cells cs e (0, 0))))
  (hw : Region.wanted oi (yielded ops a.tmps) = true := by rfl) (hN : oi.dst = some N := by exact rfl) (hrun : (execOp a.eval oi).run P w = .ok (.value (.slice (some ⟨w.heap.size, 0, none⟩) n n)) (w.alloc (.cells cs e (0, 0))) := by first | (go_simp; done) | (go_simp; rfl)) : if Region.wanted oi (yielded ops a.tmps) = true then Oper.wp P oi a w K Q else K (a.put (some N) undef) w :=
 value_ hw hN hrun h
theorem reps_scalar {α : Type} {enc : α → Value} : ∀ (xs : List α), Reps (fun x cs => cs = [enc x]) 1 xs (xs.map enc)
 | [] => Reps.none _ _
 | x :: t => by
  refine ⟨by simp, fun j p hj => ?_⟩
  have hl := (List.getElem?_eq_some_iff.1 hj).1
  have hg := (List.getElem?_eq_some_iff.1 hj).2
  rw [Nat.mul_one, ← List.map_drop, List.drop_eq_getElem_cons hl, hg, List.map_cons, List.take_succ_cons, List.take_zero]
theorem R_blk {α : Type} {enc : α → Value} {h1 : ∀ x, (enc x).oneCell' = true} {w : World} {g base e : Nat} {ok : Nat → Prop} (xs : List α) {cs : Array Value} (hb : w.heap[g]? = some (.cells cs e (0, 0))) (hx : cs.toList = xs.map enc) (hge : base ≤ g) (hok : ok g) (hm : xs.length ≤ 1000000) : Kd.R (Kd.scalar enc h1) e w base ok (.slice (some ⟨g, 0, none⟩) xs.length xs.length) xs := by
 refine ⟨fun k hk => ?_, xs.map enc, ⟨by rw [List.length_map]; exact (Nat.mul_one _).symm, .inr ⟨g, xs.length, cs, rfl, hge, hb, Nat.le_refl _, by unfold maxLen; omega, ?_, ?_⟩⟩, reps_scalar xs⟩
 ·have : g = k := by simpa [Value.ownBlock] using hk
  subst this
  exact hok
 ·show cs.size = xs.length * 1
  rw [← Array.length_toList, hx, List.length_map, Nat.mul_one]
 ·show cs.toList.take (xs.length * 1) = _
  rw [Nat.mul_one, hx, List.take_of_length_le (by rw [List.length_map]; exact Nat.le_refl _)]
theorem at_enc {α : Type} {enc : α → Value} {h1 : ∀ x, (enc x).oneCell' = true} {w : World} {A : Option Addr} {n : Nat} {xs : List α} (d : α) (h : Kd.C (Kd.scalar enc h1) w A n xs) (i : Int) (h0 : 0 ≤ i) (hi : i < n) : ∃ ad, A = some ad ∧ w.cell? (ad.add i.toNat) = some (enc (xs.getD i.toNat d)) := by
 obtain ⟨ad, c, e, hs, hr, hc⟩ := ReadsRow.get_ h d i h0 hi
 have hr' : c = [enc (xs.getD i.toNat d)] := hr
 subst hr'
 have := hc 0 (enc (xs.getD i.toNat d)) rfl
 rw [Nat.add_zero, show i.toNat * (Kd.scalar enc h1).sz = i.toNat from Nat.mul_one _] at this
 exact ⟨ad, e, this⟩
theorem C_off {k : IntKind} {w w' : World} {A : Option Addr} {n : Nat} {xs : List Int} {row : Option Nat} (h : Kd.C (Kd.int k) w A n xs) (hg : w.grownBy w' row) (hne : ∀ ad, A = some ad → some ad.block ≠ row) : Kd.C (Kd.int k) w' A n xs :=
 ⟨h.1, h.2.1, fun hn => by
  obtain ⟨ad, e, hc⟩ := h.2.2 hn
  refine ⟨ad, e, fun j p hj => ?_⟩
  obtain ⟨c, hs, hr, hcell⟩ := hc j p hj
  exact ⟨c, hs, hr, fun i u hu => hg.cell (hcell i u hu) (by rw [show (ad.add (j * (Kd.int k).sz + i)).block = ad.block from by unfold Addr.add; split <;> rfl]; exact hne ad e)⟩⟩
abbrev kP (g : Nat) : Kd Nat := Kd.scalar (fun j => Value.pointer (some ⟨g, j, none⟩)) (fun _ => rfl)
abbrev kI : Kd Int := Kd.int .i64
theorem kP_ne (g : Nat) : ∀ q, q ∈ 201 :: (kP g).E → q ≠ 3 := fun q hq => by
 rcases List.mem_cons.1 hq with rfl | hq
 ·decide
 ·exact absurd hq (List.not_mem_nil)
def offN : Nat → Nat
 | 0 => 3
 | 1 => 4
 | 2 => 5
 | 3 => 6
 | 4 => 7
 | 5 => 11
 | _ => 12
def putN (h : HdP) : Nat → Int → HdP
 | 0, x => { h with f3 := x }
 | 1, x => { h with f4 := x }
 | 2, x => { h with f5 := x }
 | 3, x => { h with f6 := x }
 | 4, x => { h with f7 := ⟨x, h.f7.f1⟩ }
 | 5, x => { h with f10 := x }
 | _, x => { h with f11 := x }
def numH (l : List Int) (h : HdP) : Nat → HdP
 | 0 => h
 | n + 1 => putN (numH l h n) n (numV l n).1
theorem seven {n : Nat} (h : n < 7) : n = 0 ∨ n = 1 ∨ n = 2 ∨ n = 3 ∨ n = 4 ∨ n = 5 ∨ n = 6 := by omega
theorem hd_put (h : HdP) (v : Value) (i : Nat) (x : Int) (hi : i < 7) : (hdA h v).setIfInBounds (offN i) (.int .i64 x) = hdA (putN h i x) v := by
 rcases seven hi with rfl | rfl | rfl | rfl | rfl | rfl | rfl <;> rfl
theorem off_lt (h : HdP) (v : Value) (i : Nat) (hi : i < 7) : decide (offN i < (hdA h v).size) = true := by
 rcases seven hi with rfl | rfl | rfl | rfl | rfl | rfl | rfl <;> rfl
def lenN (dev : Bool) : Nat := if dev = true then 7 else 5
def fsN (dev : Bool) : List Int := if dev = true then [4, 5, 6, 7, 8, 11, 12] else [4, 5, 6, 7, 8]
def psN (dev : Bool) : List Nat := if dev = true then [3, 4, 5, 6, 7, 11, 12] else [3, 4, 5, 6, 7]
theorem fs_at (dev : Bool) (n : Nat) (h : n < lenN dev) : rd (fsN dev) (n : Int) = fieldNo n ∧ (psN dev).getD n 0 = offN n := by
 cases dev with
 | true =>
  have h7 : n < 7 := h
  rcases seven h7 with rfl | rfl | rfl | rfl | rfl | rfl | rfl <;> exact ⟨rfl, rfl⟩
 | false =>
  have h5 : n < 5 := h
  have : n = 0 ∨ n = 1 ∨ n = 2 ∨ n = 3 ∨ n = 4 := by omega
  rcases this with rfl | rfl | rfl | rfl | rfl <;> exact ⟨rfl, rfl⟩
theorem len_seven (dev : Bool) : lenN dev ≤ 7 := by cases dev <;> decide
theorem nums_ok (l : List Int) (dev : Bool) (h : ∀ j, j < lenN dev → (numV l j).2 = 0) : numsV l dev = 0 := by
 have g : ∀ j, j < lenN dev → ¬ ((numV l j).2 ≠ 0) := fun j hj e => e (h j hj)
 unfold numsV
 cases dev with
 | true =>
  rw [if_neg (g 0 (by decide)), if_neg (g 1 (by decide)), if_neg (g 2 (by decide)), if_neg (g 3 (by decide)), if_neg (g 4 (by decide)), if_pos rfl, if_neg (g 5 (by decide))]
  exact h 6 (by decide)
 | false =>
  rw [if_neg (g 0 (by decide)), if_neg (g 1 (by decide)), if_neg (g 2 (by decide)), if_neg (g 3 (by decide)), if_neg (g 4 (by decide)), if_neg (by decide)]
theorem nums_bad (l : List Int) (dev : Bool) (n : Nat) (hn : n < lenN dev) (h : ∀ j, j < n → (numV l j).2 = 0) (hb : (numV l n).2 ≠ 0) : numsV l dev = (numV l n).2 := by
 have g : ∀ j, j < n → ¬ ((numV l j).2 ≠ 0) := fun j hj e => e (h j hj)
 have h7 : n < 7 := Nat.lt_of_lt_of_le hn (len_seven dev)
 unfold numsV
 rcases seven h7 with rfl | rfl | rfl | rfl | rfl | rfl | rfl
 ·rw [if_pos hb]
 ·rw [if_neg (g 0 (by decide)), if_pos hb]
 ·rw [if_neg (g 0 (by decide)), if_neg (g 1 (by decide)), if_pos hb]
 ·rw [if_neg (g 0 (by decide)), if_neg (g 1 (by decide)), if_neg (g 2 (by decide)), if_pos hb]
 ·rw [if_neg (g 0 (by decide)), if_neg (g 1 (by decide)), if_neg (g 2 (by decide)), if_neg (g 3 (by decide)), if_pos hb]
 ·cases dev with
  | true => rw [if_neg (g 0 (by decide)), if_neg (g 1 (by decide)), if_neg (g 2 (by decide)), if_neg (g 3 (by decide)), if_neg (g 4 (by decide)), if_pos rfl, if_pos hb]
  | false => exact absurd hn (by decide)
 ·cases dev with
  | true => rw [if_neg (g 0 (by decide)), if_neg (g 1 (by decide)), if_neg (g 2 (by decide)), if_neg (g 3 (by decide)), if_neg (g 4 (by decide)), if_pos rfl, if_neg (g 5 (by decide))]
  | false => exact absurd hn (by decide)
def nNum.T2 : Bool × List (List Nat × List Nat) := (true, [([], []), ([0], [0]), ([1], [1]), ([], []), ([3], [3]), ([4], [4]), ([], []), ([6], [6]), ([7], [7]), ([], []), ([9], [9]), ([10], [10]), ([], []), ([12], [12]), ([13], [13]), ([14], [14]), ([2, 5, 8, 11, 15], [2, 5, 8, 11, 15]), ([16, 0, 1, 2, 3, 4, 5, 6, 7, 8, 9, 10, 11, 12, 13, 14, 15, 16], [16])])
def nNum.B2 : List Nat := [0, 1, 3, 0, 8, 24, 0, 64, 192, 0, 512, 1536, 0, 4096, 12288, 28672, 65535, 131071]
theorem nNum.tab2 : rtab .any (opsOf Tryz.f107 2) = nNum.T2 := by kernel_rfl
theorem nNum.bits2 : waitsOk nNum.T2.2 nNum.B2 = true := by kernel_rfl
def nNum.T5 : Bool × List (List Nat × List Nat) := (true, [([], []), ([], []), ([1], [1]), ([2], [2]), ([], []), ([4], [4]), ([5], [5]), ([3, 6], [3, 6]), ([0, 7], [0, 7]), ([8, 8, 0, 1, 2, 3, 4, 5, 6, 7, 8], [0, 8])])
def nNum.B5 : List Nat := [0, 0, 2, 6, 0, 16, 48, 126, 255, 511]
theorem nNum.tab5 : rtab .any (opsOf Tryz.f107 5) = nNum.T5 := by kernel_rfl
theorem nNum.bits5 : waitsOk nNum.T5.2 nNum.B5 = true := by kernel_rfl
structure NS (w wr : World) (g : Nat) (h : HdP) (vx : Value) (vf vt : Value) (fs : List Int) (ps : List Nat) : Prop where
 bel : w.grownBy wr (some g)
 hd : wr.heap[g]? = some (.cells (hdA h vx) 33 (0, 0))
 rf : Kd.R kI 3 wr w.heap.size (fun k => w.heap.size ≤ k) vf fs
 rt : Kd.R (kP g) 201 wr w.heap.size (fun k => w.heap.size ≤ k) vt ps
theorem grown_below {w w1 w2 : World} {r : Option Nat} (h : w.grownBy w1 r) (hb : Below w1.heap.size w1 w2) : w.grownBy w2 r :=
 ⟨hb.os.trans h.os, hb.tape.trans h.tape, hb.output.trans h.output, Nat.le_trans h.size hb.size, fun k hk hr => (hb.block k (Nat.lt_of_lt_of_le hk h.size)).trans (h.block k hk hr)⟩
section
variable {w wr w' : World} {g : Nat} {h h' : HdP} {vx vf vt : Value} {fs : List Int} {ps : List Nat}
theorem NS.below (a : NS w wr g h vx vf vt fs ps) (hb : Below wr.heap.size wr w') : NS w w' g h vx vf vt fs ps := ⟨grown_below a.bel hb, blk_below a.hd hb, Kd.R_below a.rf hb, Kd.R_below a.rt hb⟩
theorem NS.set (a : NS w wr g h vx vf vt fs ps) (hg : g < w.heap.size) (h1 : w'.heap[g]? = some (.cells (hdA h' vx) 33 (0, 0))) (h2 : ∀ k, k ≠ g → w'.heap[k]? = wr.heap[k]?) (h3 : w'.heap.size = wr.heap.size) (h4 : ∀ (H : Nat) (w1 : World), H ≤ g → Below H w1 wr → Below H w1 w') : NS w w' g h' vx vf vt fs ps := by
 have hG : wr.grownBy w' (some g) := by
  have hB := h4 0 wr (Nat.zero_le _) (Below.refl 0 wr)
  exact ⟨hB.os, hB.tape, hB.output, Nat.le_of_eq h3.symm, fun k _ hr => h2 k (fun e => hr (by rw [e]))⟩
 exact ⟨grownBy_tr a.bel hG, h1, Kd.R_grown a.rf hG (fun k hk e => by injection e with e; omega), Kd.R_grown a.rt hG (fun k hk e => by injection e with e; omega)⟩
end
set_option maxRecDepth 100000 in
set_option maxHeartbeats 6400000 in
theorem snumbers_calls (h0 : HdP) (vx : Value) (hvx : vx.oneCell' = true) (g : Nat) (A0 : Option Addr) (c0 : Nat) (l0 : List Int) (w : World) (hr0 : Kd.C (Kd.int .u8) w A0 l0.length l0) (hc0 : l0.length ≤ c0) (hl : l0.length = 512) (hb : byteL l0 = true) (hx : w.heap[g]? = some (.cells (hdA h0 vx) 33 (0, 0))) (hne : ∀ ad, A0 = some ad → ad.block ≠ g) (dev : Bool) :
  Calls Tryz.prog 107 #[.slice A0 l0.length c0, .pointer (some ⟨g, 0, none⟩), .bool dev] w fun e w' => e = .returned (.int .u8 (numsV l0 dev)) ∧ w.grownBy w' (some g) ∧ ∃ h', w'.heap[g]? = some (.cells (hdA h' vx) 33 (0, 0)) ∧ (numsV l0 dev = 0 → h' = numH l0 h0 (lenN dev)) := by
 have hu1 := Tryz.underlying55
 have hu2 := Tryz.underlying202
 have HR0 := Lib.hid hr0
 have HC0 := Lib.hid hc0
 have HL0 := Lib.hid hl
 have HB0 := Lib.hid hb
 have HG := Lib.hid (blk_lt hx)
 have HNE := Lib.hid hne
 have HB1 := Lib.hid (below_alloc (Below.refl w.heap.size w) (.cells #[.int .i64 4, .int .i64 5, .int .i64 6, .int .i64 7, .int .i64 8] 3))
 have HF1 := Lib.hid (heap_alloc_new w (.cells #[.int .i64 4, .int .i64 5, .int .i64 6, .int .i64 7, .int .i64 8] 3))
 have HX := Lib.hid (blk_below hx HB1.out)
 clear hr0 hc0 hl hb hx hne
 go_enter Tryz.func107, Tryz.ntmps107
 go_wp2_with fail
 refine start_ (n := 18) (S := fun w' => True) (ds := []) #[false, false, false, false, false, false, false, false, false, false, false, false, false, false, false, false, false, false] (by kernel_rfl) rfl rfl trivial (fun hHeld => ?_); refine with_tabW nNum.tab2 nNum.bits2 (fun HT_ HW_ => ?_)
 replace HB1 := Lib.hid HB1.out.drew
 replace HF1 := Lib.hid (blk_drew HF1.out)
 replace HX := Lib.hid (blk_drew HX.out)
 generalize World.drew _ = w1 at HB1 HF1 HX hHeld ⊢
 refine Zp 0 14 (Zb 18 1) HT_ ?_
 refine Zp 1 15 (Zb 18 3) HT_ ?_
 refine Zp 2 16 (Zb 18 7) HT_ ?_
 refine Zp 3 17 (Zb 18 15) HT_ ?_
 refine Zp 4 18 (Zb 18 31) HT_ ?_
 refine Zp 5 19 (Zb 18 63) HT_ ?_
 refine Zp 6 20 (Zb 18 127) HT_ ?_
 refine Zp 7 21 (Zb 18 255) HT_ ?_
 refine Zp 8 22 (Zb 18 511) HT_ ?_
 refine Zp 9 23 (Zb 18 1023) HT_ ?_
 refine Zp 10 24 (Zb 18 2047) HT_ ?_
 refine Zp 11 25 (Zb 18 4095) HT_ ?_
 refine Zp 12 26 (Zb 18 8191) HT_ ?_
 refine Zp 13 27 (Zb 18 16383) HT_ ?_
 refine Zp 14 28 (Zb 18 32767) HT_ ?_
 refine Zp 15 29 (Zb 18 65535) HT_ ?_
 refine Zo 16 30 (Zb 18 131071) HT_ fun K hK => ?_
 refine st_bsliceN 5 #[.pointer (some ⟨g, 3, none⟩), .pointer (some ⟨g, 4, none⟩), .pointer (some ⟨g, 5, none⟩), .pointer (some ⟨g, 6, none⟩), .pointer (some ⟨g, 7, none⟩)] 201 ?_
 have HN : Hid (NS w (w1.alloc (.cells #[.pointer (some ⟨g, 3, none⟩), .pointer (some ⟨g, 4, none⟩), .pointer (some ⟨g, 5, none⟩), .pointer (some ⟨g, 6, none⟩), .pointer (some ⟨g, 7, none⟩)] 201)) g h0 vx (.slice (some ⟨w.heap.size, 0, none⟩) 5 5) (.slice (some ⟨w1.heap.size, 0, none⟩) 5 5) [4, 5, 6, 7, 8] [3, 4, 5, 6, 7]) := Lib.hid (by
  have hbw := below_alloc (Below.refl w1.heap.size w1) (.cells #[.pointer (some ⟨g, 3, none⟩), .pointer (some ⟨g, 4, none⟩), .pointer (some ⟨g, 5, none⟩), .pointer (some ⟨g, 6, none⟩), .pointer (some ⟨g, 7, none⟩)] 201)
  exact ⟨grown_of_below (HB1.out.trans (Below.mono hbw HB1.out.size)) _, blk_below HX.out hbw, R_blk [4, 5, 6, 7, 8] (blk_below HF1.out hbw) rfl (Nat.le_refl _) (Nat.le_refl _) (by decide), R_blk [3, 4, 5, 6, 7] (heap_alloc_new w1 _) rfl HB1.out.size HB1.out.size (by decide)⟩)
 have HB2 := Lib.hid (HB1.out.trans (Below.mono (below_alloc (Below.refl w1.heap.size w1) (.cells #[.pointer (some ⟨g, 3, none⟩), .pointer (some ⟨g, 4, none⟩), .pointer (some ⟨g, 5, none⟩), .pointer (some ⟨g, 6, none⟩), .pointer (some ⟨g, 7, none⟩)] 201)) HB1.out.size))
 generalize hw2 : World.alloc w1 _ = w2 at HN HB2 ⊢
 clear hw2
 refine hK.out _ _ trivial (fun hHeld => ?_)
 clear hK K
 refine Zn ?_
 refine Zp 17 8 (Zb 18 262143) HT_ ?_
 refine Zq HT_ ?_
 clear HT_ HW_
 cases dev with
 | false =>
  generalize (some (⟨w.heap.size, 0, none⟩ : Addr)) = Af at HN ⊢
  generalize (some (⟨w1.heap.size, 0, none⟩ : Addr)) = At at HN ⊢
  go_wp2_with fail
  go_loopg [46] 5 (fun gk v46 wr => ∃ (x : Int), v46 = .int .i64 x ∧ Aside0 (∃ (n : Nat), x = (n : Int) ∧ n + gk = 5 ∧ (∀ j, j < n → (numV l0 j).2 = 0) ∧ NS w wr g (numH l0 h0 n) vx (.slice Af 5 5) (.slice At 5 5) (fsN false) (psN false)))
  case atStart => exact ⟨0, rfl, ⟨0, rfl, by omega, fun j hj => absurd hj (Nat.not_lt_zero j), HN.out⟩⟩
  case round =>
   clear HN
   obtain ⟨x, rfl, HM⟩ := hrel
   obtain ⟨n, hx, hn, hz, ha⟩ := HM.out
   cases gk with
   | zero =>
    have hlt : decide (x < (5 : Int)) = false := by
     simp; omega
    obtain rfl : n = 5 := by omega
    have hc := nums_ok l0 false hz
    have HC := Lib.hid hc
    have HA := Lib.hid ha
    clear hx hn hz ha HM hc
    go_wp2
    go_ret
    exact ⟨by rw [HC.out]; rfl, HA.out.bel, _, HA.out.hd, fun _ => rfl⟩
   | succ kk =>
    have hi : n < 5 := by omega
    have h0' : (0 : Int) ≤ x := by omega
    have h1' : x < (5 : Int) := by omega
    have hlt : decide (x < (5 : Int)) = true := decide_eq_true h1'
    obtain ⟨af, haf, hcf⟩ := Kd.at_int (Kd.R_reads' ha.rf).2.2 x h0' (by exact h1')
    obtain ⟨at_, hat, hct⟩ := at_enc 0 (Kd.R_reads' ha.rt).2.2 x h0' (by exact h1')
    have hfa := fs_at false n hi
    rw [hx] at hcf hct
    rw [Int.toNat_natCast] at hcf hct
    rw [hfa.1] at hcf
    rw [hfa.2] at hct
    have hxn : x.toNat = n := by omega
    have hw : wrap64 (x + 1) = ((n + 1 : Nat) : Int) := by rw [hx, show (n : Int) + 1 = ((n + 1 : Nat) : Int) by omega, w64n _ (by have := len_seven false; omega)]
    have HW := Lib.hid hw
    have HNN := Lib.hid (show n + 1 + kk = 5 ∧ n < 7 ∧ x = (n : Int) from ⟨by omega, by have := len_seven false; omega, hx⟩)
    have HZ := Lib.hid hz
    have HA := Lib.hid ha
    have HI := Lib.hid hi
    have HCN := Lib.hid (hnum_calls n (by have := len_seven false; omega) A0 c0 l0 wr (C_off HR0.out ha.bel (fun ad e he => HNE.out ad e (by injection he))) HC0.out HL0.out HB0.out)
    subst haf
    subst hat
    have hgw := eq_true h0'
    have hgw2 := eq_true h1'
    clear hx hn hz ha HM hfa hw h0' h1' hi
    go_wp2_with fail
    refine HCN.out.mono ?_
    rintro e w2 ⟨rfl, hb2⟩
    have HA2 := Lib.hid (HA.out.below hb2)
    replace hct := pw_cell_below hb2 hct
    have HCT := Lib.hid hct
    clear hb2 HCN HA hcf hct
    cases hbad : ((numV l0 n).2 == 0) with
    | false =>
     have hne : (numV l0 n).2 ≠ 0 := beq_eq_false_iff_ne.1 hbad
     have HBD := Lib.hid (nums_bad l0 false n HI.out HZ.out hne)
     have HNE2 := Lib.hid hne
     clear hne
     go_wp2
     go_ret
     exact ⟨by rw [HBD.out]; rfl, HA2.out.bel, _, HA2.out.hd, fun e => absurd (HBD.out.symm.trans e) HNE2.out⟩
    | true =>
     have HEQ := Lib.hid (show (numV l0 n).2 = 0 from eq_of_beq hbad)
     have hct := HCT.out
     have HLT := Lib.hid (off_lt (numH l0 h0 n) vx n HNN.out.2.1)
     go_wp2_with ((with_reducible refine wpList_store_fld rfl 2 (.tmp 65) (.tmp 64) rfl g (offN n) (.int .i64 (numV l0 n).1) rfl rfl HA2.out.hd HLT.out (by kernel_rfl) rfl ?_); intro w3 h1 h2 h3 h4; have HA3 : Hid (NS w w3 g (numH l0 h0 (n + 1)) vx (.slice (some af) 5 5) (.slice (some at_) 5 5) (fsN false) (psN false)) := Lib.hid (HA2.out.set HG.out (by rw [hd_put _ _ _ _ HNN.out.2.1] at h1; exact h1) h2 h3 h4); clear h1 h2 h3 h4)
     go_roundg kk
     case measure => omega
     case rel => exact ⟨_, rfl, ⟨n + 1, HW.out, HNN.out.1, fun j hj => by rcases Nat.lt_or_ge j n with h | h; exact HZ.out j h; (obtain rfl : j = n := by omega); exact HEQ.out, HA3.out⟩⟩
 | true =>
  have HS := Lib.hid HB2.out.size
  have hbw := below_alloc (Below.refl w2.heap.size w2) (.cells #[.int .i64 11, .int .i64 12] 3)
  have HN2 := Lib.hid (HN.out.below hbw)
  have HB3 := Lib.hid (HB2.out.trans (Below.mono hbw HS.out))
  have HS3 := Lib.hid HB3.out.size
  have HV := Lib.hid (Kd.R_reads' (R_blk (h1 := fun _ => rfl) (base := 0) (ok := fun _ => True) (enc := Value.int .i64) [11, 12] (heap_alloc_new w2 (.cells #[.int .i64 11, .int .i64 12] 3)) rfl (Nat.zero_le _) trivial (by decide))).2.2
  clear hbw
  go_wp2_with ((with_reducible refine gate_builtin (b := .append) (xs := #[.tmp 32, .tmp 33]) rfl ?_); at_builtin; go_loud (refine Kd.R_append_rows kI (Rr := kI.K (w2.alloc (.cells #[.int .i64 11, .int .i64 12] 3))) (w0 := w) w.heap.size rfl (.tmp 32) (.tmp 33) 55 3 (.int .i64 0) 8 rfl hu1 (by kernel_rfl) rfl (by decide) (by omega) (.slice (some ⟨w.heap.size, 0, none⟩) 5 5) [4, 5, 6, 7, 8] [11, 12] _ _ _ (fun k => w.heap.size ≤ k) (fun _ => False) rfl rfl ?aO ?aR (fun q cs hq => hq) (fun _ h => h.elim) ?aF ?aB ?aS ?aL ?_; (case aR => exact HV.out); (case aB => exact HB3.out); (case aF => exact (fun _ hk => Nat.le_trans HS3.out hk)); (case aO => exact HN2.out.rf); (case aS => exact HS3.out); (case aL => decide); intro v9 w9 ho hb9 hg9 hat9; have HO := Lib.hid ho; have HB9 := Lib.hid hb9; have HT9 := Lib.hid (Kd.R_over HN2.out.rt HN2.out.rf (kP_ne g) hg9); have HX9 := Lib.hid ((hg9.block g (blk_lt HN2.out.hd) (fun e => by have h1 := HN2.out.rf.1 g e.symm; have := HG.out; simp only at h1; omega)).trans HN2.out.hd); clear ho hb9 hg9 hat9))
  obtain ⟨Af, cf, rfl, _, _⟩ := Kd.R_reads HO.out
  have hu3 := hu2
  refine start_ (n := 10) (S := fun w' => True) (ds := []) #[false, false, false, false, false, false, false, false, false, false] (by kernel_rfl) rfl rfl trivial (fun hHeld => ?_); refine with_tabW nNum.tab5 nNum.bits5 (fun HT_ HW_ => ?_)
  replace HO := Lib.hid (Kd.R_drew HO.out)
  replace HT9 := Lib.hid (Kd.R_drew HT9.out)
  replace HX9 := Lib.hid (blk_drew HX9.out)
  replace HB9 := Lib.hid HB9.out.drew
  generalize w9.drew = w9 at HO HT9 HX9 HB9 hHeld ⊢
  refine Zp 0 35 (Zb 10 1) HT_ ?_
  refine Zp 1 36 (Zb 10 3) HT_ ?_
  refine Zp 2 37 (Zb 10 7) HT_ ?_
  refine Zp 3 38 (Zb 10 15) HT_ ?_
  refine Zp 4 39 (Zb 10 31) HT_ ?_
  refine Zp 5 40 (Zb 10 63) HT_ ?_
  refine Zp 6 41 (Zb 10 127) HT_ ?_
  refine Zo 7 42 (Zb 10 255) HT_ fun K hK => ?_
  refine st_bsliceN 2 #[.pointer (some ⟨g, 11, none⟩), .pointer (some ⟨g, 12, none⟩)] 201 ?_
  have hbw := below_alloc (Below.refl w9.heap.size w9) (.cells #[.pointer (some ⟨g, 11, none⟩), .pointer (some ⟨g, 12, none⟩)] 201)
  have HV2 := Lib.hid (Kd.R_reads' (R_blk (h1 := fun _ => rfl) (base := 0) (ok := fun _ => True) (enc := fun j : Nat => Value.pointer (some ⟨g, j, none⟩)) [11, 12] (heap_alloc_new w9 (.cells #[.pointer (some ⟨g, 11, none⟩), .pointer (some ⟨g, 12, none⟩)] 201)) rfl (Nat.zero_le _) trivial (by decide))).2.2
  replace HO := Lib.hid (Kd.R_below HO.out hbw)
  replace HT9 := Lib.hid (Kd.R_below HT9.out hbw)
  replace HX9 := Lib.hid (blk_below HX9.out hbw)
  replace HB9 := Lib.hid (HB9.out.trans (Below.mono hbw HB9.out.size))
  generalize hA : (some (⟨w9.heap.size, 0, none⟩ : Addr)) = Av at HV2 ⊢
  clear hbw hA
  generalize hw2 : World.alloc w9 _ = w10 at HO HT9 HX9 HB9 HV2 ⊢
  clear hw2
  refine hK.out _ _ trivial (fun hHeld => ?_)
  clear hK K
  refine Zn ?_
  refine Zo 8 43 (Zb 10 511) HT_ fun K hK => ?_
  refine Kd.R_append_rows_step (kP g) (Rr := (kP g).K w10) (w0 := w) w.heap.size rfl (.tmp 35) (.tmp 42) 202 201 (.pointer none) 8 rfl hu2 (by kernel_rfl) rfl Nat.one_pos (by omega) (.slice (some ⟨w1.heap.size, 0, none⟩) 5 5) [3, 4, 5, 6, 7] [11, 12] _ _ _ (fun k => w.heap.size ≤ k) (fun _ => False) rfl rfl ?aO ?aR (fun q cs hq => hq) (fun _ h => h.elim) ?aF ?aB ?aS ?aL ?_
  case aR => exact HV2.out
  case aB => exact HB9.out
  case aF => exact (fun _ hk => Nat.le_trans HB9.out.size hk)
  case aO => exact HT9.out
  case aS => exact HB9.out.size
  case aL => decide
  intro v11 w11 ho hb11 hg11 hat11
  have HO2 := Lib.hid (Kd.R_over HO.out HT9.out (by decide) hg11)
  have HX11 := Lib.hid ((hg11.block g (blk_lt HX9.out) (fun e => by have := HT9.out.1 g e.symm; have := HG.out; omega)).trans HX9.out)
  have HT11 := Lib.hid ho
  have HB11 := Lib.hid hb11
  clear ho hb11 hg11 hat11
  refine hK.out _ _ trivial (fun hHeld => ?_)
  clear hK K
  refine Zn ?_
  refine Zp 9 8 (Zb 10 1023) HT_ ?_
  refine Zq HT_ ?_
  clear HT_ HW_
  obtain ⟨At, ct, rfl, _, _⟩ := Kd.R_reads HT11.out
  have HNF : Hid (NS w w11 g h0 vx (.slice Af 7 cf) (.slice At 7 ct) [4, 5, 6, 7, 8, 11, 12] [3, 4, 5, 6, 7, 11, 12]) := Lib.hid ⟨grown_of_below HB11.out _, HX11.out, HO2.out, HT11.out⟩
  clear HN HN2 HB3 HV HV2 HO HB9 HT9 HX9 HO2 HX11 HT11 HB11
  have HN := HNF
  clear HNF
  go_wp2_with fail
  go_loopg [46] 7 (fun gk v46 wr => ∃ (x : Int), v46 = .int .i64 x ∧ Aside0 (∃ (n : Nat), x = (n : Int) ∧ n + gk = 7 ∧ (∀ j, j < n → (numV l0 j).2 = 0) ∧ NS w wr g (numH l0 h0 n) vx (.slice Af 7 cf) (.slice At 7 ct) (fsN true) (psN true)))
  case atStart => exact ⟨0, rfl, ⟨0, rfl, by omega, fun j hj => absurd hj (Nat.not_lt_zero j), HN.out⟩⟩
  case round =>
   clear HN
   obtain ⟨x, rfl, HM⟩ := hrel
   obtain ⟨n, hx, hn, hz, ha⟩ := HM.out
   cases gk with
   | zero =>
    have hlt : decide (x < (7 : Int)) = false := by
     simp; omega
    obtain rfl : n = 7 := by omega
    have hc := nums_ok l0 true hz
    have HC := Lib.hid hc
    have HA := Lib.hid ha
    clear hx hn hz ha HM hc
    go_wp2
    go_ret
    exact ⟨by rw [HC.out]; rfl, HA.out.bel, _, HA.out.hd, fun _ => rfl⟩
   | succ kk =>
    have hi : n < 7 := by omega
    have h0' : (0 : Int) ≤ x := by omega
    have h1' : x < (7 : Int) := by omega
    have hlt : decide (x < (7 : Int)) = true := decide_eq_true h1'
    obtain ⟨af, haf, hcf⟩ := Kd.at_int (Kd.R_reads' ha.rf).2.2 x h0' (by exact h1')
    obtain ⟨at_, hat, hct⟩ := at_enc 0 (Kd.R_reads' ha.rt).2.2 x h0' (by exact h1')
    have hfa := fs_at true n hi
    rw [hx] at hcf hct
    rw [Int.toNat_natCast] at hcf hct
    rw [hfa.1] at hcf
    rw [hfa.2] at hct
    have hxn : x.toNat = n := by omega
    have hw : wrap64 (x + 1) = ((n + 1 : Nat) : Int) := by rw [hx, show (n : Int) + 1 = ((n + 1 : Nat) : Int) by omega, w64n _ (by have := len_seven true; omega)]
    have HW := Lib.hid hw
    have HNN := Lib.hid (show n + 1 + kk = 7 ∧ n < 7 ∧ x = (n : Int) from ⟨by omega, by have := len_seven true; omega, hx⟩)
    have HZ := Lib.hid hz
    have HA := Lib.hid ha
    have HI := Lib.hid hi
    have HCN := Lib.hid (hnum_calls n (by have := len_seven true; omega) A0 c0 l0 wr (C_off HR0.out ha.bel (fun ad e he => HNE.out ad e (by injection he))) HC0.out HL0.out HB0.out)
    subst haf
    subst hat
    have hgw := eq_true h0'
    have hgw2 := eq_true h1'
    clear hx hn hz ha HM hfa hw h0' h1' hi
    go_wp2_with fail
    refine HCN.out.mono ?_
    rintro e w2 ⟨rfl, hb2⟩
    have HA2 := Lib.hid (HA.out.below hb2)
    replace hct := pw_cell_below hb2 hct
    have HCT := Lib.hid hct
    clear hb2 HCN HA hcf hct
    cases hbad : ((numV l0 n).2 == 0) with
    | false =>
     have hne : (numV l0 n).2 ≠ 0 := beq_eq_false_iff_ne.1 hbad
     have HBD := Lib.hid (nums_bad l0 true n HI.out HZ.out hne)
     have HNE2 := Lib.hid hne
     clear hne
     go_wp2
     go_ret
     exact ⟨by rw [HBD.out]; rfl, HA2.out.bel, _, HA2.out.hd, fun e => absurd (HBD.out.symm.trans e) HNE2.out⟩
    | true =>
     have HEQ := Lib.hid (show (numV l0 n).2 = 0 from eq_of_beq hbad)
     have hct := HCT.out
     have HLT := Lib.hid (off_lt (numH l0 h0 n) vx n HNN.out.2.1)
     go_wp2_with ((with_reducible refine wpList_store_fld rfl 2 (.tmp 65) (.tmp 64) rfl g (offN n) (.int .i64 (numV l0 n).1) rfl rfl HA2.out.hd HLT.out (by kernel_rfl) rfl ?_); intro w3 h1 h2 h3 h4; have HA3 : Hid (NS w w3 g (numH l0 h0 (n + 1)) vx (.slice (some af) 7 cf) (.slice (some at_) 7 ct) (fsN true) (psN true)) := Lib.hid (HA2.out.set HG.out (by rw [hd_put _ _ _ _ HNN.out.2.1] at h1; exact h1) h2 h3 h4); clear h1 h2 h3 h4)
     go_roundg kk
     case measure => omega
     case rel => exact ⟨_, rfl, ⟨n + 1, HW.out, HNN.out.1, fun j hj => by rcases Nat.lt_or_ge j n with h | h; exact HZ.out j h; (obtain rfl : j = n := by omega); exact HEQ.out, HA3.out⟩⟩
end Go.Proofs.YtddhkfdfhbpblaaGreatDoor.P
namespace Go.Proofs
open Go.Shelf
def Tryz.laysM316_ren : Go.Shelf.Ren := ⟨fun | 316 => 138 | n => n, fun | 9 => 9 | 3 => 3 | 4 => 4 | 37 => 22 | 0 => 0 | 127 => 218 | 5 => 5 | n => n, fun | n => n⟩
theorem Tryz.laysM316 : Go.Proofs.LaysM.n316 Tryz.prog Tryz.laysM316_ren := {
 mixed := by kernel_rfl
 f316 := Tryz.func138.trans (congrArg some (by kernel_rfl))
 t0 := Tryz.underlying0
 a0 := Tryz.isAgg0
 z0 := Tryz.sizeOf0
 v0 := Tryz.zeroValue0
 t3 := Tryz.underlying3
 a3 := Tryz.isAgg3
 z3 := Tryz.sizeOf3
 v3 := Tryz.zeroValue3
 t4 := Tryz.underlying4
 a4 := Tryz.isAgg4
 z4 := Tryz.sizeOf4
 v4 := Tryz.zeroValue4
 t9 := Tryz.underlying9
 a9 := Tryz.isAgg9
 z9 := Tryz.sizeOf9
 v9 := Tryz.zeroValue9
 t37 := Tryz.underlying22
 a37 := Tryz.isAgg22
 z37 := Tryz.sizeOf22
 v37 := Tryz.zeroValue22
 t127 := Tryz.underlying218
 a127 := Tryz.isAgg218
 z127 := Tryz.sizeOf218
 v127 := Tryz.zeroValue218
 t5 := Tryz.underlying5
 a5 := Tryz.isAgg5
 z5 := Tryz.sizeOf5
 v5 := Tryz.zeroValue5
 i0 := by kernel_rfl
 i3 := by kernel_rfl
 i4 := by kernel_rfl
 i5 := by kernel_rfl
 i9 := by kernel_rfl
 i37 := by kernel_rfl
 i127 := by kernel_rfl }
open Go.RowKit in
theorem Tryz.stringslite_Clone (s : ByteArray) (w : World) (hlim : s.size ≤ 281474976710656) :
  Calls Tryz.prog 138 #[.string s] w fun e w' => e = .returned (.string s) ∧ Below w.heap.size w w' := Any.stringslite_Clone Tryz.laysM316 s w hlim
end Go.Proofs
namespace Go.Proofs.YtddhkfdfhbpblaaGreatDoor.P
open Go.RowKit Go.Proofs.YtddhkfdfhbpblaaGreatDoorW.PrintWords Go.Proofs.YtddhkfdfhbpblaaGreatDoorW.PrintLast Go.Proofs.YtddhkfdfhbpblaaGreatDoorW.PrintMore
attribute [local go_sem] Oper.semAt_some
set_option maxRecDepth 100000 in
set_option maxHeartbeats 1600000 in
theorem sclone_calls (s : ByteArray) (w : World) (hs : s.size ≤ 281474976710656) : Calls Tryz.prog 112 #[.string s] w fun e w' => e = .returned (.string s) ∧ Below w.heap.size w w' := by
 go_enter Tryz.func112, Tryz.ntmps112
 go_wp2_with fail
 refine (Tryz.stringslite_Clone s _ hs).mono ?_
 rintro e w' ⟨rfl, hb⟩
 have HB := Lib.hid hb
 clear hb
 go_wp2
 go_ret
 exact ⟨rfl, HB.out⟩
end Go.Proofs.YtddhkfdfhbpblaaGreatDoor.P
namespace Go.Proofs.YtddhkfdfhbpblaaGreatDoor.P
open Go.RowKit Go.Proofs.YtddhkfdfhbpblaaGreatDoorW.PrintWords Go.Proofs.YtddhkfdfhbpblaaGreatDoorW.PrintLast Go.Proofs.YtddhkfdfhbpblaaGreatDoorW.PrintMore
set_option linter.unusedVariables false
attribute [local go_sem] Oper.semAt_some
def dExt.T4 : Bool × List (List Nat × List Nat) := (true, [([], []), ([0], [0]), ([], []), ([2], [2]), ([3], [3]), ([4], [4]), ([1, 5], [1, 5]), ([], []), ([7, 6, 1, 0, 1, 2, 3, 4, 5, 6, 7], [6, 7])])
def dExt.B4 : List Nat := [0, 1, 0, 4, 12, 28, 63, 0, 255]
theorem dExt.tab4 : rtab .any (opsOf Tryz.f31 4) = dExt.T4 := by kernel_rfl
theorem dExt.bits4 : waitsOk dExt.T4.2 dExt.B4 = true := by kernel_rfl
def dExt.T16 : Bool × List (List Nat × List Nat) := (true, [([], []), ([], []), ([], []), ([], []), ([3], [3]), ([], []), ([5], [5]), ([6], [6]), ([7], [7]), ([0, 0, 3, 4, 8], [0]), ([9, 0, 3, 4, 8], [9]), ([10, 4, 4, 0, 3, 4, 8], [4, 10]), ([1, 0, 1, 3, 4, 5, 6, 7, 8, 9, 10, 11], [1]), ([12, 0, 1, 3, 4, 5, 6, 7, 8, 9, 10, 11], [12]), ([13, 8, 11, 0, 1, 3, 4, 5, 6, 7, 8, 9, 10, 11], [8, 13]), ([2, 0, 1, 2, 3, 4, 5, 6, 7, 8, 9, 10, 11, 12, 13, 14], [2]), ([15, 0, 1, 2, 3, 4, 5, 6, 7, 8, 9, 10, 11, 12, 13, 14], [15]), ([16, 14, 0, 1, 2, 3, 4, 5, 6, 7, 8, 9, 10, 11, 12, 13, 14], [16])])
def dExt.B16 : List Nat := [0, 0, 0, 0, 8, 0, 32, 96, 224, 505, 1017, 2041, 4091, 8187, 16379, 32767, 65535, 131071]
theorem dExt.tab16 : rtab .any (opsOf Tryz.f31 16) = dExt.T16 := by kernel_rfl
theorem dExt.bits16 : waitsOk dExt.T16.2 dExt.B16 = true := by kernel_rfl
def extC (d : Dc) : Dc × Int :=
 if (extV d.fl d.buf d.from_ d.p).2 ≠ 0 then ({ d with buf := [], st := 5, fc := (extV d.fl d.buf d.from_ d.p).2, fb := d.from_ }, (extV d.fl d.buf d.from_ d.p).2)
 else ({ d with buf := [], st := 0, p := (extV d.fl d.buf d.from_ d.p).1, xt := if d.fl = 76 ∨ d.fl = 75 ∨ d.fl = 103 then d.xt else d.from_ }, 0)
section
variable {w0 w : World} {v0 : Value} {D : Nat} {d : Dc} {vl vg vb : Value}
theorem pay_len {l : List Int} {ps : List PrP} (h : payV l = some ps) : ps.length ≤ l.length := by
 unfold payV at h
 obtain ⟨q, hq, rfl⟩ := Option.map_eq_some_iff.1 h
 have := (recsF_right _ _ _ hq).2
 rw [List.length_map]
 rw [bytesOf_len] at this
 omega
theorem pparse_pay (l : List Int) (hb : byteL l = true) (hl : l.length < 2000000) : pax_Parse.f (4 * l.length + 60) l = some (match payV l with | none => ([], 6) | some ps => (ps, 0)) := by
 rw [pparse_is l hb hl _ (Nat.le_refl _)]
 unfold payV
 cases recsF l.length (Lib.bytesOf l) <;> simp [prsO]
theorem size_nil (s : ByteArray) : (s.toList == []) = decide (s.size = 0) := size0 s
set_option maxRecDepth 100000 in
set_option maxHeartbeats 12800000 in
theorem extend_calls (h : DT w0 v0 w D d vl vg vb) (hq : DG w D vb) (hs6 : 6 ≤ w.heap.size) (hby : byteL d.buf = true) (hgl : d.p.glo.length + d.buf.length < 1000000) (hf : 0 ≤ d.from_) :
  Calls Tryz.prog 31 #[.pointer (some ⟨D, 0, none⟩)] w fun e w' => ∃ vl' vg' vb', e = .returned (.tuple #[.agg evA, .int .u8 (extC d).2]) ∧ DT w0 v0 w' D (extC d).1 vl' vg' vb' := by
 have hu127 := Tryz.underlying127
 obtain ⟨A3, k3, rfl, n3, C3⟩ := Kd.R_reads h.ds.hb
 obtain ⟨A1, k1, rfl, n1, C1⟩ := Kd.R_reads h.ds.hg
 have hHT := h.ds.start.below (below_alloc (Below.refl w.heap.size w) (.cells evA 35))
 have HT := Lib.hid hHT
 have HBUF := Lib.hid hHT.ds.hb
 have HR := Lib.hid (heap_alloc_new w (.cells evA 35))
 have HS0 := Lib.hid (Nat.le_refl w.heap.size)
 have HD := Lib.hid (show w.heap.size ≠ D from Nat.ne_of_gt h.ds.lt)
 have HTG : Hid (text_Get.f d.buf = some (getT d.buf)) := Lib.hid (by unfold text_Get.f; rw [if_pos hby])
 have HF := Lib.hid hf
 have HN1 := Lib.hid n1
 have HQ := Lib.hid hq
 have HL := Lib.hid hgl
 have HPP := Lib.hid (pparse_pay d.buf hby (by omega))
 have HH := Lib.hid h
 have HS6 := Lib.hid hs6
 have HNM := Lib.hid (dset_name { d with buf := [], st := 0 } vl (.slice A1 d.p.glo.length k1) (.slice none 0 0) (getT d.buf) d.from_ d.from_ true (decide_eq_true hf) (atOf_pos hf))
 have HLK := Lib.hid (dset_link { d with buf := [], st := 0 } vl (.slice A1 d.p.glo.length k1) (.slice none 0 0) (getT d.buf) d.from_ d.from_ true (decide_eq_true hf) (atOf_pos hf))
 obtain ⟨R, hR⟩ : ∃ R, extC d = R := ⟨_, rfl⟩
 rw [hR]
 have HRR := Lib.hid hR
 clear h hHT hq hby hgl hf C3 n3 C1 n1 hs6 hR
 cases h76 : (d.fl == 76) with
 | true =>
  have E76 := Lib.hid (show d.fl = 76 from eq_of_beq h76)
  have c16 : (w.alloc (.cells evA 35)).cell? ⟨D, 16, none⟩ = some (.slice A3 d.buf.length k3) := blk_cell HT.out.ds.blk 16
  go_enter Tryz.func31, Tryz.ntmps31
  go_wp2_with first
   | ((with_reducible refine wpList_store_fld rfl 22 (.tmp 15) (.const (.slice none 0 0)) rfl D 16 (.slice none 0 0) rfl rfl HT.out.ds.blk (by kernel_rfl) (by kernel_rfl) rfl ?_); intro w3 h1 h2 h3 h4; replace HR := Lib.hid ((h2 _ HD.out).trans HR.out); replace HBUF := Lib.hid (RB_past HT.out HBUF.out h2); replace HT := Lib.hid (HT.out.set (d' := { d with buf := [] }) (by rw [dset_buf0] at h1; exact h1) h2 h3 h4 HT.out.ds.hl HT.out.ds.hg HT.out.nil_b (.inr rfl)); clear h1 h2 h3 h4)
   | ((with_reducible refine wpList_store_fld rfl 3 (.tmp 17) (.const (.int .i64 0)) rfl D 0 (.int .i64 0) rfl rfl HT.out.ds.blk (by kernel_rfl) (by kernel_rfl) rfl ?_); intro w4 h1 h2 h3 h4; replace HR := Lib.hid ((h2 _ HD.out).trans HR.out); replace HBUF := Lib.hid (RB_past HT.out HBUF.out h2); replace HT := Lib.hid (HT.out.same (d' := { d with buf := [], st := 0 }) (by rw [dset_st] at h1; exact h1) h2 h3 h4); clear h1 h2 h3 h4; have c14 : w4.cell? ⟨D, 14, none⟩ = some (.int .u8 d.fl) := blk_cell HT.out.ds.blk 14)
  refine start_ (n := 9) (S := fun w' => w'.cell? ⟨D, 15, none⟩ = some (.int .i64 d.from_)) (ds := []) #[false, false, false, false, false, false, false, false, false] (by kernel_rfl) rfl rfl (blk_cell (HT.out.below ((Below.refl _ w4).drew)).ds.blk 15) (fun hHeld => ?_); refine with_tabW dExt.tab4 dExt.bits4 (fun HT_ HW_ => ?_)
  replace HR := Lib.hid (blk_drew HR.out)
  replace HBUF := Lib.hid (Kd.R_drew HBUF.out)
  replace HT := Lib.hid (HT.out.below ((Below.refl _ w4).drew))
  generalize w4.drew = w5 at HR HBUF HT hHeld ⊢
  have HX : Hid True := Lib.hid trivial
  refine Zp 0 30 (Zb 9 1) HT_ ?_
  refine Zp 2 32 (Zb 9 5) HT_ ?_
  refine Zp 3 33 (Zb 9 13) HT_ ?_
  refine Zp 4 34 (Zb 9 29) HT_ ?_
  refine Zt 5 35 (Zb 9 61) HT_ HW_ hHeld ?_
  refine join_ (σ := Nat) 1 (Zb 9 255) (fun g => [(31, .string (getT d.buf)), (35, .int .i64 d.from_), (36, .agg (longA (getT d.buf) d.from_ true)), (5, .pointer (some ⟨g, 0, none⟩))]) (fun g w' => DT w (.slice A3 d.buf.length k3) w' D { d with buf := [], st := 0 } vl (.slice A1 d.p.glo.length k1) (.slice none 0 0) ∧ w'.heap[w.heap.size]? = some (.cells evA 35 (0, 0)) ∧ w'.heap[g]? = some (.cells (longA ⟨#[]⟩ 0 false) 71 (0, 0)) ∧ w.heap.size < g ∧ g ≠ D) ?_ ?_
  rotate_left
  ·intro hCont
   refine two_ (i := 1) (j := 7) (Ni := some 31) (Nj := some 5) #[true, true, true, true, true, true, false, false, false] #[true, false, true, true, true, true, false, true, false] rfl rfl rfl rfl (two_of HT_.out (by kernel_rfl)) (by decide) (by decide) (fun K hK => ?_) (fun K hK => ?_)
   ·skip
    refine Zg Tryz.func61 #[.slice A3 d.buf.length k3] ?_
    refine (text_Get.calls A3 k3 d.buf (getT d.buf) _ (Kd.R_reads' HBUF.out).2.2 (Kd.R_reads' HBUF.out).2.1 HTG.out).mono ?_
    rintro e w6 ⟨rfl, hb⟩
    replace HR := Lib.hid (blk_below HR.out hb)
    replace HBUF := Lib.hid (Kd.R_below HBUF.out hb)
    replace HT := Lib.hid (HT.out.below hb)
    try replace HX := Lib.hid (⟨blk_below HX.out.1 hb, HX.out.2⟩ : _ ∧ _)
    clear hb
    refine ⟨_, rfl, ?_⟩
    refine hK.out _ _ (blk_cell HT.out.ds.blk 15) (fun hHeld => ?_)
    clear hK K
    refine Zn ?_
    refine Zp 6 36 (Zb 9 127) HT_ ?_
    refine Zo 7 5 (Zb 9 255) HT_ fun K hK => ?_
    refine st_alloc (longA ⟨#[]⟩ 0 false) 71 ?_
    intro g w6 hg hx hb
    have HX := Lib.hid (show w6.heap[g]? = some (.cells (longA ⟨#[]⟩ 0 false) 71 (0, 0)) ∧ w.heap.size < g ∧ g ≠ D from ⟨hx, by have := blk_lt HR.out; omega, by have := HT.out.ds.lt; omega⟩)
    replace HR := Lib.hid (blk_below HR.out hb)
    replace HBUF := Lib.hid (Kd.R_below HBUF.out hb)
    replace HT := Lib.hid (HT.out.below hb)
    clear hg hx hb
    refine hK.out _ _ (blk_cell HT.out.ds.blk 15) (fun hHeld => ?_)
    clear hK K
    refine Zn ?_
    exact norm_ (by first | (simp only [putAll, Act.put, List.setIfInBounds_toArray, List.set_cons_zero, List.set_cons_succ]; done) | (simp only [putAll, Act.put, List.setIfInBounds_toArray, List.set_cons_zero, List.set_cons_succ]; rfl)) (hCont _ _ ⟨HT.out, HR.out, HX.out⟩)
   ·skip
    refine st_alloc (longA ⟨#[]⟩ 0 false) 71 ?_
    intro g w6 hg hx hb
    have HX := Lib.hid (show w6.heap[g]? = some (.cells (longA ⟨#[]⟩ 0 false) 71 (0, 0)) ∧ w.heap.size < g ∧ g ≠ D from ⟨hx, by have := blk_lt HR.out; omega, by have := HT.out.ds.lt; omega⟩)
    replace HR := Lib.hid (blk_below HR.out hb)
    replace HBUF := Lib.hid (Kd.R_below HBUF.out hb)
    replace HT := Lib.hid (HT.out.below hb)
    clear hg hx hb
    refine hK.out _ _ (blk_cell HT.out.ds.blk 15) (fun hHeld => ?_)
    clear hK K
    refine Zn ?_
    refine Zo 1 31 (Zb 9 191) HT_ fun K hK => ?_
    refine Zg Tryz.func61 #[.slice A3 d.buf.length k3] ?_
    refine (text_Get.calls A3 k3 d.buf (getT d.buf) _ (Kd.R_reads' HBUF.out).2.2 (Kd.R_reads' HBUF.out).2.1 HTG.out).mono ?_
    rintro e w6 ⟨rfl, hb⟩
    replace HR := Lib.hid (blk_below HR.out hb)
    replace HBUF := Lib.hid (Kd.R_below HBUF.out hb)
    replace HT := Lib.hid (HT.out.below hb)
    try replace HX := Lib.hid (⟨blk_below HX.out.1 hb, HX.out.2⟩ : _ ∧ _)
    clear hb
    refine ⟨_, rfl, ?_⟩
    refine hK.out _ _ (blk_cell HT.out.ds.blk 15) (fun hHeld => ?_)
    clear hK K
    refine Zn ?_
    refine Zp 6 36 (Zb 9 255) HT_ ?_
    exact norm_ (by first | (simp only [putAll, Act.put, List.setIfInBounds_toArray, List.set_cons_zero, List.set_cons_succ]; done) | (simp only [putAll, Act.put, List.setIfInBounds_toArray, List.set_cons_zero, List.set_cons_succ]; rfl)) (hCont _ _ ⟨HT.out, HR.out, HX.out⟩)
  rintro g5 w6 ⟨hT, hR, hX, hg, hgD⟩
  replace HT := Lib.hid hT
  replace HR := Lib.hid hR
  replace HX := Lib.hid hX
  have HG5 := Lib.hid (And.intro hg hgD)
  have hHeld := blk_cell HT.out.ds.blk 15
  clear hT hR hX hg hgD HBUF
  refine norm_ (a' := ?_) ?_ ?_
  rotate_left
  ·simp only [putAll, Act.put, List.setIfInBounds_toArray, List.set_cons_zero, List.set_cons_succ]
   rfl
  refine one_ (i := 8) (N := none) (Zb 9 511) rfl rfl (one_of HT_.out (by kernel_rfl)) (by decide) (fun K hK => ?_)
  refine st_store_blk 71 (.tmp 5) (.tmp 36) g5 (longA (getT d.buf) d.from_ true) HX.out ?_
  intro w7 h1 h2 h3 h4
  replace HT := Lib.hid (HT.out.other HX.out rfl (by have := HS0.out; have := HG5.out.1; omega) h2 h3 h4)
  replace HX := Lib.hid h1
  replace HR := Lib.hid ((h2 _ (by have := HG5.out.1; omega)).trans HR.out)
  clear h1 h2 h3 h4
  refine hK.out _ _ (blk_cell HT.out.ds.blk 15) (fun hHeld => ?_)
  clear hK K
  refine Zq HT_ ?_
  clear HT_ HW_
  have cs : w7.cell? ⟨g5, 0, none⟩ = some (.string (getT d.buf)) := blk_cell HX.out 0
  have c14 : w7.cell? ⟨D, 14, none⟩ = some (.int .u8 d.fl) := blk_cell HT.out.ds.blk 14
  cases hs : ((getT d.buf).toList == []) with
  | true =>
   have hs0 : (getT d.buf).size = 0 := of_decide_eq_true ((size_nil _).symm.trans hs)
   obtain rfl : R = ({ d with buf := [], st := 5, fc := 10, fb := d.from_ }, 10) := by
    rw [← HRR.out]
    unfold extC extV
    rw [if_pos (Or.inl E76.out), if_pos hs0]
    rfl
   have c15 : w7.cell? ⟨D, 15, none⟩ = some (.int .i64 d.from_) := blk_cell HT.out.ds.blk 15
   go_wp2_with fail
   refine (fail_calls HT.out.ds.start _ _).mono ?_
   rintro e w6 ⟨rfl, hT⟩
   replace HR := Lib.hid ((hT.ch.block _ (blk_lt HR.out) HD.out (by simp [Value.ownBlock])).trans HR.out)
   replace HT := Lib.hid (HT.out.trans hT)
   clear hT
   go_wp2_with ((with_reducible refine wpList_store_blk rfl 35 (.tmp 2) (.tmp 46) rfl w.heap.size evA rfl rfl HR.out rfl (by kernel_rfl) (by kernel_rfl) ?_); intro w9 h1 h2 h3 h4; replace HT := Lib.hid (HT.out.other HR.out rfl HS0.out h2 h3 h4); replace HR := Lib.hid h1; clear h1 h2 h3 h4)
   refine bodyPost_ret (results_blk rfl _ _ w.heap.size 35 evA (0, 0) _ (.int .u8 10) rfl HR.out rfl Tryz.underlying35 rfl (by kernel_rfl)) rfl ⟨rfl, _, _, _, HH.out.trans HT.out⟩
  | false =>
   have hs0 : ¬ (getT d.buf).size = 0 := of_decide_eq_false ((size_nil _).symm.trans hs)
   obtain rfl : R = ({ d with buf := [], st := 0, p := { d.p with name := getT d.buf, aN := d.from_ } }, 0) := by
    rw [← HRR.out]
    unfold extC extV
    rw [if_pos (Or.inl E76.out), if_neg hs0, if_pos E76.out, if_pos (Or.inl E76.out)]
    rfl
   go_wp2_with first
    | ((with_reducible refine wpList_load_blk rfl 71 (.tmp 5) rfl g5 rfl HX.out _ Tryz.underlying71 rfl (by kernel_rfl) ?_))
    | ((with_reducible refine wpList_store_part rfl 71 (.tmp 56) (.tmp 54) rfl D 4 (longA (getT d.buf) d.from_ true) rfl rfl HT.out.ds.blk (by kernel_rfl) (by kernel_rfl) (by kernel_rfl) _ HNM.out ?_); intro w8 h1 h2 h3 h4; replace HR := Lib.hid ((h2 _ HD.out).trans HR.out); replace HT := Lib.hid (HT.out.same (d' := { d with buf := [], st := 0, p := { d.p with name := getT d.buf, aN := d.from_ } }) h1 h2 h3 h4); clear h1 h2 h3 h4)
    | ((with_reducible refine wpList_store_blk rfl 35 (.tmp 2) (.tmp 61) rfl w.heap.size evA rfl rfl HR.out rfl (by kernel_rfl) (by kernel_rfl) ?_); intro w9 h1 h2 h3 h4; replace HT := Lib.hid (HT.out.other HR.out rfl HS0.out h2 h3 h4); replace HR := Lib.hid h1; clear h1 h2 h3 h4)
   refine bodyPost_ret (results_blk rfl _ _ w.heap.size 35 evA (0, 0) _ (.int .u8 0) rfl HR.out rfl Tryz.underlying35 rfl (by kernel_rfl)) rfl ⟨rfl, _, _, _, HH.out.trans HT.out⟩
 | false =>
  have N76 := Lib.hid (show ¬ d.fl = 76 from fun e => by rw [e] at h76; cases h76)
  cases h75 : (d.fl == 75) with
  | true =>
   have E75 := Lib.hid (show d.fl = 75 from eq_of_beq h75)
   have c16 : (w.alloc (.cells evA 35)).cell? ⟨D, 16, none⟩ = some (.slice A3 d.buf.length k3) := blk_cell HT.out.ds.blk 16
   go_enter Tryz.func31, Tryz.ntmps31
   go_wp2_with first
    | ((with_reducible refine wpList_store_fld rfl 22 (.tmp 15) (.const (.slice none 0 0)) rfl D 16 (.slice none 0 0) rfl rfl HT.out.ds.blk (by kernel_rfl) (by kernel_rfl) rfl ?_); intro w3 h1 h2 h3 h4; replace HR := Lib.hid ((h2 _ HD.out).trans HR.out); replace HBUF := Lib.hid (RB_past HT.out HBUF.out h2); replace HT := Lib.hid (HT.out.set (d' := { d with buf := [] }) (by rw [dset_buf0] at h1; exact h1) h2 h3 h4 HT.out.ds.hl HT.out.ds.hg HT.out.nil_b (.inr rfl)); clear h1 h2 h3 h4)
    | ((with_reducible refine wpList_store_fld rfl 3 (.tmp 17) (.const (.int .i64 0)) rfl D 0 (.int .i64 0) rfl rfl HT.out.ds.blk (by kernel_rfl) (by kernel_rfl) rfl ?_); intro w4 h1 h2 h3 h4; replace HR := Lib.hid ((h2 _ HD.out).trans HR.out); replace HBUF := Lib.hid (RB_past HT.out HBUF.out h2); replace HT := Lib.hid (HT.out.same (d' := { d with buf := [], st := 0 }) (by rw [dset_st] at h1; exact h1) h2 h3 h4); clear h1 h2 h3 h4; have c14 : w4.cell? ⟨D, 14, none⟩ = some (.int .u8 d.fl) := blk_cell HT.out.ds.blk 14)
   refine start_ (n := 9) (S := fun w' => w'.cell? ⟨D, 15, none⟩ = some (.int .i64 d.from_)) (ds := []) #[false, false, false, false, false, false, false, false, false] (by kernel_rfl) rfl rfl (blk_cell (HT.out.below ((Below.refl _ w4).drew)).ds.blk 15) (fun hHeld => ?_); refine with_tabW dExt.tab4 dExt.bits4 (fun HT_ HW_ => ?_)
   replace HR := Lib.hid (blk_drew HR.out)
   replace HBUF := Lib.hid (Kd.R_drew HBUF.out)
   replace HT := Lib.hid (HT.out.below ((Below.refl _ w4).drew))
   generalize w4.drew = w5 at HR HBUF HT hHeld ⊢
   have HX : Hid True := Lib.hid trivial
   refine Zp 0 30 (Zb 9 1) HT_ ?_
   refine Zp 2 32 (Zb 9 5) HT_ ?_
   refine Zp 3 33 (Zb 9 13) HT_ ?_
   refine Zp 4 34 (Zb 9 29) HT_ ?_
   refine Zt 5 35 (Zb 9 61) HT_ HW_ hHeld ?_
   refine join_ (σ := Nat) 1 (Zb 9 255) (fun g => [(31, .string (getT d.buf)), (35, .int .i64 d.from_), (36, .agg (longA (getT d.buf) d.from_ true)), (5, .pointer (some ⟨g, 0, none⟩))]) (fun g w' => DT w (.slice A3 d.buf.length k3) w' D { d with buf := [], st := 0 } vl (.slice A1 d.p.glo.length k1) (.slice none 0 0) ∧ w'.heap[w.heap.size]? = some (.cells evA 35 (0, 0)) ∧ w'.heap[g]? = some (.cells (longA ⟨#[]⟩ 0 false) 71 (0, 0)) ∧ w.heap.size < g ∧ g ≠ D) ?_ ?_
   rotate_left
   ·intro hCont
    refine two_ (i := 1) (j := 7) (Ni := some 31) (Nj := some 5) #[true, true, true, true, true, true, false, false, false] #[true, false, true, true, true, true, false, true, false] rfl rfl rfl rfl (two_of HT_.out (by kernel_rfl)) (by decide) (by decide) (fun K hK => ?_) (fun K hK => ?_)
    ·skip
     refine Zg Tryz.func61 #[.slice A3 d.buf.length k3] ?_
     refine (text_Get.calls A3 k3 d.buf (getT d.buf) _ (Kd.R_reads' HBUF.out).2.2 (Kd.R_reads' HBUF.out).2.1 HTG.out).mono ?_
     rintro e w6 ⟨rfl, hb⟩
     replace HR := Lib.hid (blk_below HR.out hb)
     replace HBUF := Lib.hid (Kd.R_below HBUF.out hb)
     replace HT := Lib.hid (HT.out.below hb)
     try replace HX := Lib.hid (⟨blk_below HX.out.1 hb, HX.out.2⟩ : _ ∧ _)
     clear hb
     refine ⟨_, rfl, ?_⟩
     refine hK.out _ _ (blk_cell HT.out.ds.blk 15) (fun hHeld => ?_)
     clear hK K
     refine Zn ?_
     refine Zp 6 36 (Zb 9 127) HT_ ?_
     refine Zo 7 5 (Zb 9 255) HT_ fun K hK => ?_
     refine st_alloc (longA ⟨#[]⟩ 0 false) 71 ?_
     intro g w6 hg hx hb
     have HX := Lib.hid (show w6.heap[g]? = some (.cells (longA ⟨#[]⟩ 0 false) 71 (0, 0)) ∧ w.heap.size < g ∧ g ≠ D from ⟨hx, by have := blk_lt HR.out; omega, by have := HT.out.ds.lt; omega⟩)
     replace HR := Lib.hid (blk_below HR.out hb)
     replace HBUF := Lib.hid (Kd.R_below HBUF.out hb)
     replace HT := Lib.hid (HT.out.below hb)
     clear hg hx hb
     refine hK.out _ _ (blk_cell HT.out.ds.blk 15) (fun hHeld => ?_)
     clear hK K
     refine Zn ?_
     exact norm_ (by first | (simp only [putAll, Act.put, List.setIfInBounds_toArray, List.set_cons_zero, List.set_cons_succ]; done) | (simp only [putAll, Act.put, List.setIfInBounds_toArray, List.set_cons_zero, List.set_cons_succ]; rfl)) (hCont _ _ ⟨HT.out, HR.out, HX.out⟩)
    ·skip
     refine st_alloc (longA ⟨#[]⟩ 0 false) 71 ?_
     intro g w6 hg hx hb
     have HX := Lib.hid (show w6.heap[g]? = some (.cells (longA ⟨#[]⟩ 0 false) 71 (0, 0)) ∧ w.heap.size < g ∧ g ≠ D from ⟨hx, by have := blk_lt HR.out; omega, by have := HT.out.ds.lt; omega⟩)
     replace HR := Lib.hid (blk_below HR.out hb)
     replace HBUF := Lib.hid (Kd.R_below HBUF.out hb)
     replace HT := Lib.hid (HT.out.below hb)
     clear hg hx hb
     refine hK.out _ _ (blk_cell HT.out.ds.blk 15) (fun hHeld => ?_)
     clear hK K
     refine Zn ?_
     refine Zo 1 31 (Zb 9 191) HT_ fun K hK => ?_
     refine Zg Tryz.func61 #[.slice A3 d.buf.length k3] ?_
     refine (text_Get.calls A3 k3 d.buf (getT d.buf) _ (Kd.R_reads' HBUF.out).2.2 (Kd.R_reads' HBUF.out).2.1 HTG.out).mono ?_
     rintro e w6 ⟨rfl, hb⟩
     replace HR := Lib.hid (blk_below HR.out hb)
     replace HBUF := Lib.hid (Kd.R_below HBUF.out hb)
     replace HT := Lib.hid (HT.out.below hb)
     try replace HX := Lib.hid (⟨blk_below HX.out.1 hb, HX.out.2⟩ : _ ∧ _)
     clear hb
     refine ⟨_, rfl, ?_⟩
     refine hK.out _ _ (blk_cell HT.out.ds.blk 15) (fun hHeld => ?_)
     clear hK K
     refine Zn ?_
     refine Zp 6 36 (Zb 9 255) HT_ ?_
     exact norm_ (by first | (simp only [putAll, Act.put, List.setIfInBounds_toArray, List.set_cons_zero, List.set_cons_succ]; done) | (simp only [putAll, Act.put, List.setIfInBounds_toArray, List.set_cons_zero, List.set_cons_succ]; rfl)) (hCont _ _ ⟨HT.out, HR.out, HX.out⟩)
   rintro g5 w6 ⟨hT, hR, hX, hg, hgD⟩
   replace HT := Lib.hid hT
   replace HR := Lib.hid hR
   replace HX := Lib.hid hX
   have HG5 := Lib.hid (And.intro hg hgD)
   have hHeld := blk_cell HT.out.ds.blk 15
   clear hT hR hX hg hgD HBUF
   refine norm_ (a' := ?_) ?_ ?_
   rotate_left
   ·simp only [putAll, Act.put, List.setIfInBounds_toArray, List.set_cons_zero, List.set_cons_succ]
    rfl
   refine one_ (i := 8) (N := none) (Zb 9 511) rfl rfl (one_of HT_.out (by kernel_rfl)) (by decide) (fun K hK => ?_)
   refine st_store_blk 71 (.tmp 5) (.tmp 36) g5 (longA (getT d.buf) d.from_ true) HX.out ?_
   intro w7 h1 h2 h3 h4
   replace HT := Lib.hid (HT.out.other HX.out rfl (by have := HS0.out; have := HG5.out.1; omega) h2 h3 h4)
   replace HX := Lib.hid h1
   replace HR := Lib.hid ((h2 _ (by have := HG5.out.1; omega)).trans HR.out)
   clear h1 h2 h3 h4
   refine hK.out _ _ (blk_cell HT.out.ds.blk 15) (fun hHeld => ?_)
   clear hK K
   refine Zq HT_ ?_
   clear HT_ HW_
   have cs : w7.cell? ⟨g5, 0, none⟩ = some (.string (getT d.buf)) := blk_cell HX.out 0
   have c14 : w7.cell? ⟨D, 14, none⟩ = some (.int .u8 d.fl) := blk_cell HT.out.ds.blk 14
   cases hs : ((getT d.buf).toList == []) with
   | true =>
    have hs0 : (getT d.buf).size = 0 := of_decide_eq_true ((size_nil _).symm.trans hs)
    obtain rfl : R = ({ d with buf := [], st := 5, fc := 10, fb := d.from_ }, 10) := by
     rw [← HRR.out]
     unfold extC extV
     rw [if_pos (Or.inr E75.out), if_pos hs0]
     rfl
    have c15 : w7.cell? ⟨D, 15, none⟩ = some (.int .i64 d.from_) := blk_cell HT.out.ds.blk 15
    go_wp2_with fail
    refine (fail_calls HT.out.ds.start _ _).mono ?_
    rintro e w6 ⟨rfl, hT⟩
    replace HR := Lib.hid ((hT.ch.block _ (blk_lt HR.out) HD.out (by simp [Value.ownBlock])).trans HR.out)
    replace HT := Lib.hid (HT.out.trans hT)
    clear hT
    go_wp2_with ((with_reducible refine wpList_store_blk rfl 35 (.tmp 2) (.tmp 46) rfl w.heap.size evA rfl rfl HR.out rfl (by kernel_rfl) (by kernel_rfl) ?_); intro w9 h1 h2 h3 h4; replace HT := Lib.hid (HT.out.other HR.out rfl HS0.out h2 h3 h4); replace HR := Lib.hid h1; clear h1 h2 h3 h4)
    refine bodyPost_ret (results_blk rfl _ _ w.heap.size 35 evA (0, 0) _ (.int .u8 10) rfl HR.out rfl Tryz.underlying35 rfl (by kernel_rfl)) rfl ⟨rfl, _, _, _, HH.out.trans HT.out⟩
   | false =>
    have hs0 : ¬ (getT d.buf).size = 0 := of_decide_eq_false ((size_nil _).symm.trans hs)
    obtain rfl : R = ({ d with buf := [], st := 0, p := { d.p with link := getT d.buf, aL := d.from_ } }, 0) := by
     rw [← HRR.out]
     unfold extC extV
     rw [if_pos (Or.inr E75.out), if_neg hs0, if_neg N76.out, if_pos (Or.inr (Or.inl E75.out))]
     rfl
    go_wp2_with first
     | ((with_reducible refine wpList_load_blk rfl 71 (.tmp 5) rfl g5 rfl HX.out _ Tryz.underlying71 rfl (by kernel_rfl) ?_))
     | ((with_reducible refine wpList_store_part rfl 71 (.tmp 60) (.tmp 58) rfl D 7 (longA (getT d.buf) d.from_ true) rfl rfl HT.out.ds.blk (by kernel_rfl) (by kernel_rfl) (by kernel_rfl) _ HLK.out ?_); intro w8 h1 h2 h3 h4; replace HR := Lib.hid ((h2 _ HD.out).trans HR.out); replace HT := Lib.hid (HT.out.same (d' := { d with buf := [], st := 0, p := { d.p with link := getT d.buf, aL := d.from_ } }) h1 h2 h3 h4); clear h1 h2 h3 h4)
     | ((with_reducible refine wpList_store_blk rfl 35 (.tmp 2) (.tmp 61) rfl w.heap.size evA rfl rfl HR.out rfl (by kernel_rfl) (by kernel_rfl) ?_); intro w9 h1 h2 h3 h4; replace HT := Lib.hid (HT.out.other HR.out rfl HS0.out h2 h3 h4); replace HR := Lib.hid h1; clear h1 h2 h3 h4)
    refine bodyPost_ret (results_blk rfl _ _ w.heap.size 35 evA (0, 0) _ (.int .u8 0) rfl HR.out rfl Tryz.underlying35 rfl (by kernel_rfl)) rfl ⟨rfl, _, _, _, HH.out.trans HT.out⟩
  | false =>
   have N75 := Lib.hid (show ¬ d.fl = 75 from fun e => by rw [e] at h75; cases h75)
   have NLK := Lib.hid (show ¬ (d.fl = 76 ∨ d.fl = 75) from fun e => e.elim N76.out N75.out)
   have c16 : (w.alloc (.cells evA 35)).cell? ⟨D, 16, none⟩ = some (.slice A3 d.buf.length k3) := blk_cell HT.out.ds.blk 16
   go_enter Tryz.func31, Tryz.ntmps31
   go_wp2_with first
    | ((with_reducible refine wpList_store_fld rfl 22 (.tmp 15) (.const (.slice none 0 0)) rfl D 16 (.slice none 0 0) rfl rfl HT.out.ds.blk (by kernel_rfl) (by kernel_rfl) rfl ?_); intro w3 h1 h2 h3 h4; replace HR := Lib.hid ((h2 _ HD.out).trans HR.out); replace HBUF := Lib.hid (RB_past HT.out HBUF.out h2); replace HT := Lib.hid (HT.out.set (d' := { d with buf := [] }) (by rw [dset_buf0] at h1; exact h1) h2 h3 h4 HT.out.ds.hl HT.out.ds.hg HT.out.nil_b (.inr rfl)); clear h1 h2 h3 h4)
    | ((with_reducible refine wpList_store_fld rfl 3 (.tmp 17) (.const (.int .i64 0)) rfl D 0 (.int .i64 0) rfl rfl HT.out.ds.blk (by kernel_rfl) (by kernel_rfl) rfl ?_); intro w4 h1 h2 h3 h4; replace HR := Lib.hid ((h2 _ HD.out).trans HR.out); replace HBUF := Lib.hid (RB_past HT.out HBUF.out h2); replace HT := Lib.hid (HT.out.same (d' := { d with buf := [], st := 0 }) (by rw [dset_st] at h1; exact h1) h2 h3 h4); clear h1 h2 h3 h4; have c14 : w4.cell? ⟨D, 14, none⟩ = some (.int .u8 d.fl) := blk_cell HT.out.ds.blk 14)
   refine (pax_Parse.calls (4 * d.buf.length + 60) (fun _ => True) A3 k3 d.buf _ _ _ (Kd.V_mk (Kd.R_reads' HBUF.out).2.1 (Kd.R_F HBUF.out)) (DG.chg HQ.out HS6.out HT.out.ch).glob HPP.out).mono ?_
   rintro e w7 ⟨vp, rfl, hvp, hbp⟩
   replace HR := Lib.hid (blk_below HR.out hbp)
   replace HT := Lib.hid (HT.out.below hbp)
   have HVP := Lib.hid hvp
   clear hvp hbp HBUF c14
   cases hpay : payV d.buf with
   | none =>
    rw [hpay] at HVP
    obtain rfl : R = ({ d with buf := [], st := 5, fc := 6, fb := d.from_ }, 6) := by
     rw [← HRR.out]
     unfold extC extV
     rw [if_neg NLK.out, hpay]
     rfl
    have c15 : w7.cell? ⟨D, 15, none⟩ = some (.int .i64 d.from_) := blk_cell HT.out.ds.blk 15
    go_wp2_with fail
    refine (fail_calls HT.out.ds.start _ _).mono ?_
    rintro e w6 ⟨rfl, hT⟩
    replace HR := Lib.hid ((hT.ch.block _ (blk_lt HR.out) HD.out (by simp [Value.ownBlock])).trans HR.out)
    replace HT := Lib.hid (HT.out.trans hT)
    clear hT
    go_wp2_with ((with_reducible refine wpList_store_blk rfl 35 (.tmp 2) (.tmp 76) rfl w.heap.size evA rfl rfl HR.out rfl (by kernel_rfl) (by kernel_rfl) ?_); intro w9 h1 h2 h3 h4; replace HT := Lib.hid (HT.out.other HR.out rfl HS0.out h2 h3 h4); replace HR := Lib.hid h1; clear h1 h2 h3 h4)
    refine bodyPost_ret (results_blk rfl _ _ w.heap.size 35 evA (0, 0) _ (.int .u8 6) rfl HR.out rfl Tryz.underlying35 rfl (by kernel_rfl)) rfl ⟨rfl, _, _, _, HH.out.trans HT.out⟩
   | some ps =>
    rw [hpay] at HVP
    replace HVP : Hid (Kd.R k127 127 w7 _ _ vp ps) := HVP
    have HPL := Lib.hid (pay_len hpay)
    obtain ⟨A2, k2, rfl, n2, _⟩ := Kd.R_reads HVP.out
    have HN2 := Lib.hid n2
    clear n2
    have c14 : w7.cell? ⟨D, 14, none⟩ = some (.int .u8 d.fl) := blk_cell HT.out.ds.blk 14
    cases h103 : (d.fl == 103) with
    | true =>
     have E103 := Lib.hid (show d.fl = 103 from eq_of_beq h103)
     obtain rfl : R = ({ d with buf := [], st := 0, p := { d.p with glo := layP d.p.glo ps } }, 0) := by
      rw [← HRR.out]
      unfold extC extV
      rw [if_neg NLK.out, hpay]
      simp only [if_pos E103.out, if_pos (show d.fl = 76 ∨ d.fl = 75 ∨ d.fl = 103 from Or.inr (Or.inr E103.out))]
      rfl
     have c13 : w7.cell? ⟨D, 13, none⟩ = some (.slice A1 d.p.glo.length k1) := blk_cell HT.out.ds.blk 13
     go_wp2_with fail
     refine (Lay_calls A1 k1 d.p.glo A2 k2 ps _ (Kd.R_reads' HT.out.ds.hg).2.2 HN1.out (Kd.R_reads' HVP.out).2.2 HN2.out (by have := HL.out; have := HPL.out; omega)).mono ?_
     rintro e w8 ⟨v8, rfl, hr8, hb8⟩
     replace HR := Lib.hid (blk_below HR.out hb8)
     replace HT := Lib.hid (HT.out.below hb8)
     have HG8 := Lib.hid (show RP w8 v8 (layP d.p.glo ps) from Kd.R_mono (Kd.R_lower hr8 (Nat.zero_le _)) (fun _ _ => trivial))
     clear hr8 hb8
     go_wp2_with first
      | ((with_reducible refine wpList_store_fld rfl 31 (.tmp 91) (.tmp 89) rfl D 13 v8 rfl rfl HT.out.ds.blk (by kernel_rfl) (by kernel_rfl) (R_one HG8.out) ?_); intro w9 h1 h2 h3 h4; replace HR := Lib.hid ((h2 _ HD.out).trans HR.out); replace HT := Lib.hid (HT.out.set (d' := { d with buf := [], st := 0, p := { d.p with glo := layP d.p.glo ps } }) (vl' := vl) (vg' := v8) (vb' := .slice none 0 0) h1 h2 h3 h4 HT.out.ds.hl HG8.out HT.out.nil_b (.inl rfl)); clear h1 h2 h3 h4)
      | ((with_reducible refine wpList_store_blk rfl 35 (.tmp 2) (.tmp 107) rfl w.heap.size evA rfl rfl HR.out rfl (by kernel_rfl) (by kernel_rfl) ?_); intro w9 h1 h2 h3 h4; replace HT := Lib.hid (HT.out.other HR.out rfl HS0.out h2 h3 h4); replace HR := Lib.hid h1; clear h1 h2 h3 h4)
     refine bodyPost_ret (results_blk rfl _ _ w.heap.size 35 evA (0, 0) _ (.int .u8 0) rfl HR.out rfl Tryz.underlying35 rfl (by kernel_rfl)) rfl ⟨rfl, _, _, _, HH.out.trans HT.out⟩
    | false =>
     have N103 := Lib.hid (show ¬ d.fl = 103 from fun e => by rw [e] at h103; cases h103)
     obtain rfl : R = ({ d with buf := [], st := 0, p := { d.p with loc := lastL ps, aX := d.from_ }, xt := d.from_ }, 0) := by
      rw [← HRR.out]
      unfold extC extV
      rw [if_neg NLK.out, hpay]
      simp only [if_neg N103.out, if_neg (show ¬ (d.fl = 76 ∨ d.fl = 75 ∨ d.fl = 103) from fun e => e.elim N76.out (fun e => e.elim N75.out N103.out))]
      rfl
     go_wp2_with fail
     refine start_ (n := 18) (S := fun w' => w'.cell? ⟨D, 15, none⟩ = some (.int .i64 d.from_)) (ds := []) #[false, false, false, false, false, false, false, false, false, false, false, false, false, false, false, false, false, false] (by kernel_rfl) rfl rfl (blk_cell (HT.out.below ((Below.refl _ w7).drew)).ds.blk 15) (fun hHeld => ?_); refine with_tabW dExt.tab16 dExt.bits16 (fun HT_ HW_ => ?_)
     replace HR := Lib.hid (blk_drew HR.out)
     replace HVP := Lib.hid (Kd.R_drew HVP.out)
     replace HT := Lib.hid (HT.out.below ((Below.refl _ w7).drew))
     generalize w7.drew = w8 at HR HVP HT hHeld ⊢
     refine Zp 0 92 (Zb 18 1) HT_ ?_
     refine Zp 1 93 (Zb 18 3) HT_ ?_
     refine Zp 2 94 (Zb 18 7) HT_ ?_
     refine Zp 3 95 (Zb 18 15) HT_ ?_
     refine Zp 5 97 (Zb 18 47) HT_ ?_
     refine Zp 6 98 (Zb 18 111) HT_ ?_
     refine Zp 7 99 (Zb 18 239) HT_ ?_
     refine Zt 8 100 (Zb 18 495) HT_ HW_ hHeld ?_
     refine Zo 4 96 (Zb 18 511) HT_ fun K hK => ?_
     refine Zg Tryz.func64 #[.slice A2 ps.length k2] ?_
     refine (last_calls A2 k2 ps _ (Kd.R_reads' HVP.out).2.2 HN2.out (by have := HL.out; have := HPL.out; omega)).mono ?_
     rintro e w9 ⟨v8, rfl, hr8, hb8⟩
     replace HR := Lib.hid (blk_below HR.out hb8)
     replace HT := Lib.hid (HT.out.below hb8)
     have HG8 := Lib.hid (show RP w9 v8 (lastL ps) from Kd.R_mono (Kd.R_lower hr8 (Nat.zero_le _)) (fun _ _ => trivial))
     clear hr8 hb8 HVP
     refine ⟨_, rfl, ?_⟩
     refine hK.out _ _ (blk_cell HT.out.ds.blk 15) (fun hHeld => ?_)
     clear hK K
     refine Zn ?_
     refine Zp 9 101 (Zb 18 1023) HT_ ?_
     refine Zp 10 102 (Zb 18 2047) HT_ ?_
     refine one_ (i := 11) (N := none) (Zb 18 4095) rfl rfl (one_of HT_.out (by kernel_rfl)) (by decide) (fun K hK => ?_)
     refine st_store_fld 31 (.tmp 102) (.tmp 96) D 10 v8 HT.out.ds.blk ?_ (h1 := R_one HG8.out)
     intro w10 h1 h2 h3 h4
     replace HR := Lib.hid ((h2 _ HD.out).trans HR.out)
     replace HT := Lib.hid (HT.out.set (d' := { d with buf := [], st := 0, p := { d.p with loc := lastL ps } }) (vl' := v8) (vg' := .slice A1 d.p.glo.length k1) (vb' := .slice none 0 0) h1 h2 h3 h4 HG8.out HT.out.ds.hg HT.out.nil_b (.inl rfl))
     clear h1 h2 h3 h4
     refine hK.out _ _ (blk_cell HT.out.ds.blk 15) (fun hHeld => ?_)
     clear hK K
     refine Zp 12 103 (Zb 18 8191) HT_ ?_
     refine Zp 13 104 (Zb 18 16383) HT_ ?_
     refine one_ (i := 14) (N := none) (Zb 18 32767) rfl rfl (one_of HT_.out (by kernel_rfl)) (by decide) (fun K hK => ?_)
     refine st_store_fld 2 (.tmp 104) (.tmp 100) D 11 (.int .i64 d.from_) HT.out.ds.blk ?_
     intro w11 h1 h2 h3 h4
     replace HR := Lib.hid ((h2 _ HD.out).trans HR.out)
     replace HT := Lib.hid (HT.out.same (d' := { d with buf := [], st := 0, p := { d.p with loc := lastL ps }, xt := d.from_ }) h1 h2 h3 h4)
     clear h1 h2 h3 h4
     refine hK.out _ _ (blk_cell HT.out.ds.blk 15) (fun hHeld => ?_)
     clear hK K
     refine Zp 15 105 (Zb 18 65535) HT_ ?_
     refine Zp 16 106 (Zb 18 131071) HT_ ?_
     refine one_ (i := 17) (N := none) (Zb 18 262143) rfl rfl (one_of HT_.out (by kernel_rfl)) (by decide) (fun K hK => ?_)
     refine st_store_fld 4 (.tmp 106) (.const (.bool true)) D 12 (.bool true) HT.out.ds.blk ?_
     intro w12 h1 h2 h3 h4
     replace HR := Lib.hid ((h2 _ HD.out).trans HR.out)
     replace HT := Lib.hid (HT.out.same (d' := { d with buf := [], st := 0, p := { d.p with loc := lastL ps, aX := d.from_ }, xt := d.from_ }) (by rw [dset_aX _ _ _ _ d.from_ true (decide_eq_true HF.out)] at h1; exact h1) h2 h3 h4)
     clear h1 h2 h3 h4
     refine hK.out _ _ (blk_cell HT.out.ds.blk 15) (fun hHeld => ?_)
     clear hK K
     refine Zq HT_ ?_
     clear HT_ HW_
     go_wp2_with first
      | ((with_reducible refine wpList_store_blk rfl 35 (.tmp 2) (.tmp 107) rfl w.heap.size evA rfl rfl HR.out rfl (by kernel_rfl) (by kernel_rfl) ?_); intro w9 h1 h2 h3 h4; replace HT := Lib.hid (HT.out.other HR.out rfl HS0.out h2 h3 h4); replace HR := Lib.hid h1; clear h1 h2 h3 h4)
     refine bodyPost_ret (results_blk rfl _ _ w.heap.size 35 evA (0, 0) _ (.int .u8 0) rfl HR.out rfl Tryz.underlying35 rfl (by kernel_rfl)) rfl ⟨rfl, _, _, _, HH.out.trans HT.out⟩
end
end Go.Proofs.YtddhkfdfhbpblaaGreatDoor.P
namespace Go.Proofs.YtddhkfdfhbpblaaGreatDoor.P
open Go.RowKit Go.Proofs.YtddhkfdfhbpblaaGreatDoorW.PrintWords Go.Proofs.YtddhkfdfhbpblaaGreatDoorW.PrintLast Go.Proofs.YtddhkfdfhbpblaaGreatDoorW.PrintMore
set_option linter.unusedVariables false
attribute [local go_sem] Oper.semAt_some
def dItm.T1 : Bool × List (List Nat × List Nat) := (true, [([], []), ([0], [0]), ([1], [1]), ([], []), ([3], [3]), ([], []), ([5], [5]), ([2, 4, 6], [2, 4, 6]), ([], []), ([8, 7, 2, 0, 1, 2, 3, 4, 5, 6, 7, 8], [7, 8])])
def dItm.B1 : List Nat := [0, 1, 3, 0, 8, 0, 32, 127, 0, 511]
theorem dItm.tab1 : rtab .any (opsOf Tryz.f69 1) = dItm.T1 := by kernel_rfl
theorem dItm.bits1 : waitsOk dItm.T1.2 dItm.B1 = true := by kernel_rfl
def dItm.T7 : Bool × List (List Nat × List Nat) := (true, [([], []), ([0], [0]), ([], []), ([2], [2]), ([0, 1], []), ([4, 1, 1, 0, 1], [1, 4]), ([0, 1, 2, 3, 4, 5], []), ([6, 3, 5, 0, 1, 2, 3, 4, 5], [3, 6])])
def dItm.B7 : List Nat := [0, 1, 0, 4, 3, 19, 63, 127]
theorem dItm.tab7 : rtab .any (opsOf Tryz.f69 7) = dItm.T7 := by kernel_rfl
theorem dItm.bits7 : waitsOk dItm.T7.2 dItm.B7 = true := by kernel_rfl
def dItm.T13 : Bool × List (List Nat × List Nat) := (true, [([], []), ([0], [0]), ([1], [1]), ([2], [2]), ([], []), ([4], [4]), ([5], [5]), ([6], [6]), ([3, 7], [3, 7]), ([8, 8, 0, 1, 2, 3, 4, 5, 6, 7, 8], [8])])
def dItm.B13 : List Nat := [0, 1, 3, 7, 0, 16, 48, 112, 255, 511]
theorem dItm.tab13 : rtab .any (opsOf Tryz.f69 13) = dItm.T13 := by kernel_rfl
theorem dItm.bits13 : waitsOk dItm.T13.2 dItm.B13 = true := by kernel_rfl
def dItm.T27 : Bool × List (List Nat × List Nat) := (true, [([], []), ([0], [0]), ([1], [1]), ([], []), ([3], [3]), ([4, 2], [4]), ([0, 1, 2, 4, 5], []), ([6, 2, 5, 0, 1, 2, 4, 5], [2, 6]), ([0, 1, 2, 3, 4, 5, 6, 7], []), ([8, 5, 7, 0, 1, 2, 3, 4, 5, 6, 7], [5, 8])])
def dItm.B27 : List Nat := [0, 1, 3, 0, 8, 31, 63, 127, 255, 511]
theorem dItm.tab27 : rtab .any (opsOf Tryz.f69 27) = dItm.T27 := by kernel_rfl
theorem dItm.bits27 : waitsOk dItm.T27.2 dItm.B27 = true := by kernel_rfl
structure IT (w wr : World) (r : Raw) (g : Nat) (h : HdP) (v : Value) : Prop where
 bel : Below w.heap.size w wr
 box : wr.heap[w.heap.size]? = some (.cells (rawA r) 119 (0, 0))
 res : wr.heap[w.heap.size + 1]? = some (.cells hdZ 33 (0, 0))
 hd : wr.heap[g]? = some (.cells (hdA h v) 33 (0, 0))
 lt : w.heap.size + 1 < g
 ex : Kd.R k127 127 wr w.heap.size (fun k => w.heap.size ≤ k) v h.f12
section
variable {w wr w' : World} {r : Raw} {g : Nat} {h h' : HdP} {v v' : Value}
theorem IT.below (a : IT w wr r g h v) (hb : Below wr.heap.size wr w') : IT w w' r g h v := ⟨below_step a.bel hb, blk_below a.box hb, blk_below a.res hb, blk_below a.hd hb, a.lt, Kd.R_below a.ex hb⟩
theorem IT.set (a : IT w wr r g h v) (h1 : w'.heap[g]? = some (.cells (hdA h' v') 33 (0, 0))) (h2 : ∀ k, k ≠ g → w'.heap[k]? = wr.heap[k]?) (h4 : ∀ (H : Nat) (w1 : World), H ≤ g → Below H w1 wr → Below H w1 w') (hex : Kd.R k127 127 wr w.heap.size (fun k => w.heap.size ≤ k) v' h'.f12) : IT w w' r g h' v' :=
 ⟨h4 _ _ (by have := a.lt; omega) a.bel, (h2 _ (by have := a.lt; omega)).trans a.box, (h2 _ (by have := a.lt; omega)).trans a.res, h1, a.lt, R_past2 hex a.hd (by decide) h2⟩
theorem IT.upd (a : IT w wr r g h v) (h1 : w'.heap[g]? = some (.cells (hdA h' v) 33 (0, 0))) (h2 : ∀ k, k ≠ g → w'.heap[k]? = wr.heap[k]?) (h4 : ∀ (H : Nat) (w1 : World), H ≤ g → Below H w1 wr → Below H w1 w') (he : h'.f12 = h.f12 := by rfl) : IT w w' r g h' v := a.set h1 h2 h4 (by rw [he]; exact a.ex)
end
theorem st_load_blk {P : Program} {ops : Array Oper} {oi : Oper} {a : Act} {w : World} {Q : Exit → Act → World → Prop} {K : Act → World → Prop} {N : Tmp} (ty : TypeId) (x : Operand) (B : Nat) {cs : Array Value} {t : TypeId} {fr : Nat × Nat} (hb : w.heap[B]? = some (.cells cs t fr)) (d : TypeDesc) (hu : P.underlying ty = some d)
  (h : K (a.put (some N) (.agg cs)) w) (hw : Region.wanted oi (yielded ops a.tmps) = true := by rfl) (hN : oi.dst = some N := by exact rfl) (ho : oi.op = .load ty x := by exact rfl) (hx : a.eval x = .pointer (some ⟨B, 0, none⟩) := by rfl)
  (hd : d.isRow = true := by rfl) (hi : (P.info? ty).map (·.size) = some cs.size := by kernel_rfl) : if Region.wanted oi (yielded ops a.tmps) = true then Oper.wp P oi a w K Q else K (a.put (some N) undef) w :=
 value_ hw hN (by
  unfold execOp
  simp only [ho, hx, Instr.loadAt, Instr.sureAddr, Sem.run_bind, Sem.run_pure, Result.andThen_ok, run_loadVar_mid w B 0 ty cs.toList d (range_blk hb) hu hd (by rw [hi, Array.length_toList])]) h
theorem put_keep (h : HdP) (n : Nat) (x : Int) : (putN h n x).f0 = h.f0 ∧ (putN h n x).f12 = h.f12 := by
 unfold putN
 split <;> exact ⟨rfl, rfl⟩
theorem num_keep (l : List Int) (h : HdP) : ∀ n, (numH l h n).f0 = h.f0 ∧ (numH l h n).f12 = h.f12
 | 0 => ⟨rfl, rfl⟩
 | n + 1 => by
  have := put_keep (numH l h n) n (numV l n).1
  have h2 := num_keep l h n
  exact ⟨this.1.trans h2.1, this.2.trans h2.2⟩
theorem num_raw (l : List Int) (r : Raw) (dv : Bool) (hd : devV r = dv) (nm lk : ByteArray) : ({ numH l ⟨kindV r.flag, ⟨#[]⟩, ⟨#[]⟩, 0, 0, 0, 0, ⟨0, 0⟩, r.user, r.group, 0, 0, []⟩ (lenN dv) with f1 := nm, f2 := lk } : HdP) = rawH l r nm lk := by
 unfold rawH
 rw [hd]
 cases dv <;> rfl
theorem step_f0 (h : HdP) (q : Pr) : (stepH h q).f0 = h.f0 := by
 unfold stepH
 split
 ·unfold sayV
  repeat' split
  all_goals rfl
 ·rfl
theorem fold_f0 : ∀ (l : List Pr) (h : HdP), (l.foldl stepH h).f0 = h.f0
 | [], h => rfl
 | q :: t, h => by rw [List.foldl_cons, fold_f0 t, step_f0]
theorem cut_f0 (h : HdP) (b : Bool) : (cutL2 h b).f0 = h.f0 := by unfold cutL2; split <;> rfl
theorem cut_f12 (h : HdP) (b : Bool) : (cutL2 h b).f12 = h.f12 := by unfold cutL2; split <;> rfl
theorem laid_f0 (l : List Int) (r : Raw) (p : Pend) (nm : ByteArray) : (laidH l r p nm).f0 = kindV r.flag := by unfold laidH; rw [cut_f0, fold_f0]; rfl
theorem laid_sz {l : List Int} {r : Raw} {p : Pend} (hp : PR p) (hr : r.name.size ≤ 512 ∧ r.link.size ≤ 512 ∧ r.pre.size ≤ 512) : (laidH l r p (nameC r p)).f1.size ≤ 1000000 ∧ (laidH l r p (nameC r p)).f2.size ≤ 1000000 := by
 have h := fold_sz 1000000 (layP p.glo p.loc) (rawH l r (nameC r p) (if 0 ≤ p.aL then p.link else r.link)) (by
  show (nameC r p).size ≤ _
  unfold nameC
  split
  ·exact hp.nm
  ·have := full_size r; omega) (by
  show (if 0 ≤ p.aL then p.link else r.link).size ≤ _
  split
  ·exact hp.lk
  ·omega) (fun x hx => (hp.sz x (layP_mem hx)).2)
 unfold laidH
 refine ⟨by rw [cut_name]; exact h.1, ?_⟩
 unfold cutL2
 split
 ·exact h.2
 ·show (0 : Nat) ≤ _; omega
theorem IT.grown {w wr w' : World} {r : Raw} {g : Nat} {h h' : HdP} {v : Value} (a : IT w wr r g h v) (hg : wr.grownBy w' (some g)) (hx : w'.heap[g]? = some (.cells (hdA h' v) 33 (0, 0))) (hex : Kd.R k127 127 w' w.heap.size (fun k => w.heap.size ≤ k) v h'.f12) : IT w w' r g h' v :=
 ⟨below_grown a.bel hg (by have := a.lt; omega) a.bel.size (Nat.le_refl _), (hg.block _ (blk_lt a.box) (fun e => by have := a.lt; injection e with e; omega)).trans a.box, (hg.block _ (blk_lt a.res) (fun e => by have := a.lt; injection e with e; omega)).trans a.res, hx, a.lt, hex⟩
section
variable {w0 w : World} {v0 : Value} {D : Nat} {d : Dc} {vl vg vb : Value}
set_option maxRecDepth 100000 in
set_option maxHeartbeats 12800000 in
theorem item_calls (h : DT w0 v0 w D d vl vg vb) (hG : Glob w) (hp : PR d.p) (A0 : Option Addr) (c0 : Nat) (l0 : List Int) (hr0 : Kd.C (Kd.int .u8) w A0 l0.length l0) (hc0 : l0.length ≤ c0) (hl : l0.length = 512) (hb : byteL l0 = true) (r : Raw) (hfl : 0 ≤ r.flag ∧ r.flag < 256)
  (hrs : r.name.size ≤ 512 ∧ r.link.size ≤ 512 ∧ r.pre.size ≤ 512) :
  Calls Tryz.prog 69 #[.pointer (some ⟨D, 0, none⟩), .slice A0 l0.length c0, .agg (rawA r)] w fun e w' => ∃ v', e = .returned (.tuple #[.agg (hdA (itemC l0 r d.p).1 v'), .int .u8 (itemC l0 r d.p).2]) ∧ Kd.R k127 127 w' w.heap.size (fun k => w.heap.size ≤ k) v' (itemC l0 r d.p).1.f12 ∧ Below w.heap.size w w' := by
 have hu127 := Tryz.underlying127
 have HKN := Lib.hid (kind_prog r.flag hfl.1 hfl.2 1 (Nat.le_refl _))
 have HFU := Lib.hid (fun x7 x8 x9 x10 x11 x12 x13 => full_prog r (by omega) (by omega) r.mark r.flag x7 x8 x9 x10 x11 x12 x13 r.link r.user r.group)
 have HRS := Lib.hid hrs
 have HR0 := Lib.hid hr0
 have HC0 := Lib.hid hc0
 have HL0 := Lib.hid hl
 have HB0 := Lib.hid hb
 have HP := Lib.hid hp
 have HG := Lib.hid hG
 have HT := Lib.hid h
 obtain ⟨A1, k1, hvl, n1, C1⟩ := Kd.R_reads h.ds.hl
 obtain ⟨A2, k2, hvg, n2, C2⟩ := Kd.R_reads h.ds.hg
 subst hvl
 subst hvg
 have HNL := Lib.hid (And.intro n1 n2)
 have HAD : Hid (∀ ad, A0 = some ad → ad.block < w.heap.size) := Lib.hid (by
  obtain ⟨b, o, rfl⟩ := C_at hr0 (by omega)
  obtain ⟨ad, e, hcl⟩ := Kd.at_int hr0 0 (Int.le_refl _) (by omega)
  intro ad2 e2
  injection e with e
  injection e2 with e2
  subst e
  subst e2
  have := World.block_lt_of_cell? w _ hcl
  exact this)
 have HB := Lib.hid (below_alloc (below_alloc (Below.refl w.heap.size w) (.cells (rawA r) 119)) (.cells hdZ 33))
 have HX := Lib.hid (blk_alloc (heap_alloc_new w (.cells (rawA r) 119)) (.cells hdZ 33))
 have HZ : Hid (((w.alloc (.cells (rawA r) 119)).alloc (.cells hdZ 33)).heap[w.heap.size + 1]? = some (.cells hdZ 33 (0, 0))) := Lib.hid (by have := heap_alloc_new (w.alloc (.cells (rawA r) 119)) (.cells hdZ 33); simpa using this)
 obtain ⟨R, hR⟩ : ∃ R, itemC l0 r d.p = R := ⟨_, rfl⟩
 rw [hR]
 have HRR := Lib.hid hR
 obtain ⟨kn, hkn⟩ : ∃ kn, kindV r.flag = kn := ⟨_, rfl⟩
 rw [hkn] at HKN
 have HKE := Lib.hid hkn
 obtain ⟨fl, hflE⟩ : ∃ fl, r.flag = fl := ⟨_, rfl⟩
 clear h hG hp hr0 hc0 hl hb hfl hrs hR n1 n2 C1 C2 hkn hflE
 go_enter Tryz.func69, Tryz.ntmps69
 go_wp2_with fail
 have HX8 : Hid True := Lib.hid trivial
 refine start_ (n := 10) (S := fun w' => w'.cell? ⟨w.heap.size, 1, none⟩ = some (.int .u8 r.flag) ∧ w'.cell? ⟨w.heap.size, 5, none⟩ = some (.string r.user) ∧ w'.cell? ⟨w.heap.size, 6, none⟩ = some (.string r.group)) (ds := []) #[false, false, false, false, false, false, false, false, false, false] (by kernel_rfl) rfl rfl ⟨blk_cell (blk_drew HX.out) 1, blk_cell (blk_drew HX.out) 5, blk_cell (blk_drew HX.out) 6⟩ (fun hHeld => ?_); refine with_tabW dItm.tab1 dItm.bits1 (fun HT_ HW_ => ?_)
 replace HX := Lib.hid (blk_drew HX.out)
 replace HZ := Lib.hid (blk_drew HZ.out)
 replace HB := Lib.hid (HB.out.drew)
 generalize World.drew _ = w1 at HX HZ HB hHeld ⊢
 refine Zp 0 17 (Zb 10 1) HT_ ?_
 refine Zp 3 20 (Zb 10 9) HT_ ?_
 refine Zp 5 22 (Zb 10 41) HT_ ?_
 refine Zt 1 18 (Zb 10 43) HT_ HW_ hHeld ?_
 refine Zt 4 21 (Zb 10 59) HT_ HW_ hHeld ?_
 refine Zt 6 23 (Zb 10 123) HT_ HW_ hHeld ?_
 refine join_ (σ := Nat) 1 (Zb 10 511) (fun g => [(19, .int .i64 kn), (24, .agg (hdA ⟨kn, ⟨#[]⟩, ⟨#[]⟩, 0, 0, 0, 0, ⟨0, 0⟩, r.user, r.group, 0, 0, []⟩ (.slice none 0 0))), (8, .pointer (some ⟨g, 0, none⟩))]) (fun g w' => Below w.heap.size w w' ∧ w'.heap[w.heap.size]? = some (.cells (rawA r) 119 (0, 0)) ∧ w'.heap[w.heap.size + 1]? = some (.cells hdZ 33 (0, 0)) ∧ w'.heap[g]? = some (.cells hdZ 33 (0, 0)) ∧ w.heap.size + 1 < g) ?_ ?_
 rotate_left
 ·intro hCont
  refine two_ (i := 2) (j := 8) (Ni := some 19) (Nj := some 8) #[true, true, true, true, true, true, true, false, false, false] #[true, true, false, true, true, true, true, false, true, false] rfl rfl rfl rfl (two_of HT_.out (by kernel_rfl)) (by decide) (by decide) (fun K hK => ?_) (fun K hK => ?_)
  ·skip
   refine Zg Tryz.func67 #[.int .u8 r.flag] ?_
   refine (item_Kind.calls _ _ _ _ HKN.out).mono ?_
   rintro e w3 ⟨rfl, hb⟩
   replace hb := hb.below
   replace HX := Lib.hid (blk_below HX.out hb)
   replace HZ := Lib.hid (blk_below HZ.out hb)
   replace HB := Lib.hid (below_step HB.out hb)
   try replace HX8 := Lib.hid (⟨blk_below HX8.out.1 hb, HX8.out.2⟩ : _ ∧ _)
   clear hb
   refine ⟨_, rfl, ?_⟩
   refine hK.out _ _ ⟨blk_cell HX.out 1, blk_cell HX.out 5, blk_cell HX.out 6⟩ (fun hHeld => ?_)
   clear hK K
   refine Zn ?_
   refine Zp 7 24 (Zb 10 255) HT_ ?_
   refine Zo 8 8 (Zb 10 511) HT_ fun K hK => ?_
   refine st_alloc hdZ 33 ?_
   intro g w3 hg hx hb
   have HX8 := Lib.hid (show w3.heap[g]? = some (.cells hdZ 33 (0, 0)) ∧ w.heap.size + 1 < g from ⟨hx, by have := blk_lt HZ.out; omega⟩)
   replace HX := Lib.hid (blk_below HX.out hb)
   replace HZ := Lib.hid (blk_below HZ.out hb)
   replace HB := Lib.hid (below_step HB.out hb)
   clear hg hx hb
   refine hK.out _ _ ⟨blk_cell HX.out 1, blk_cell HX.out 5, blk_cell HX.out 6⟩ (fun hHeld => ?_)
   clear hK K
   refine Zn ?_
   exact norm_ (by first | (simp only [putAll, Act.put, List.setIfInBounds_toArray, List.set_cons_zero, List.set_cons_succ]; done) | (simp only [putAll, Act.put, List.setIfInBounds_toArray, List.set_cons_zero, List.set_cons_succ]; rfl)) (hCont _ _ ⟨HB.out, HX.out, HZ.out, HX8.out⟩)
  ·skip
   refine st_alloc hdZ 33 ?_
   intro g w3 hg hx hb
   have HX8 := Lib.hid (show w3.heap[g]? = some (.cells hdZ 33 (0, 0)) ∧ w.heap.size + 1 < g from ⟨hx, by have := blk_lt HZ.out; omega⟩)
   replace HX := Lib.hid (blk_below HX.out hb)
   replace HZ := Lib.hid (blk_below HZ.out hb)
   replace HB := Lib.hid (below_step HB.out hb)
   clear hg hx hb
   refine hK.out _ _ ⟨blk_cell HX.out 1, blk_cell HX.out 5, blk_cell HX.out 6⟩ (fun hHeld => ?_)
   clear hK K
   refine Zn ?_
   refine Zo 2 19 (Zb 10 383) HT_ fun K hK => ?_
   refine Zg Tryz.func67 #[.int .u8 r.flag] ?_
   refine (item_Kind.calls _ _ _ _ HKN.out).mono ?_
   rintro e w3 ⟨rfl, hb⟩
   replace hb := hb.below
   replace HX := Lib.hid (blk_below HX.out hb)
   replace HZ := Lib.hid (blk_below HZ.out hb)
   replace HB := Lib.hid (below_step HB.out hb)
   try replace HX8 := Lib.hid (⟨blk_below HX8.out.1 hb, HX8.out.2⟩ : _ ∧ _)
   clear hb
   refine ⟨_, rfl, ?_⟩
   refine hK.out _ _ ⟨blk_cell HX.out 1, blk_cell HX.out 5, blk_cell HX.out 6⟩ (fun hHeld => ?_)
   clear hK K
   refine Zn ?_
   refine Zp 7 24 (Zb 10 511) HT_ ?_
   exact norm_ (by first | (simp only [putAll, Act.put, List.setIfInBounds_toArray, List.set_cons_zero, List.set_cons_succ]; done) | (simp only [putAll, Act.put, List.setIfInBounds_toArray, List.set_cons_zero, List.set_cons_succ]; rfl)) (hCont _ _ ⟨HB.out, HX.out, HZ.out, HX8.out⟩)
 rintro g8 w2 ⟨hB, hX, hZ, hX8, hg⟩
 replace HB := Lib.hid hB
 replace HX := Lib.hid hX
 replace HZ := Lib.hid hZ
 replace HX8 := Lib.hid hX8
 have HG8 := Lib.hid hg
 have hHeld : w2.cell? ⟨w.heap.size, 1, none⟩ = some (.int .u8 r.flag) ∧ w2.cell? ⟨w.heap.size, 5, none⟩ = some (.string r.user) ∧ w2.cell? ⟨w.heap.size, 6, none⟩ = some (.string r.group) := ⟨blk_cell HX.out 1, blk_cell HX.out 5, blk_cell HX.out 6⟩
 clear hB hX hZ hX8 hg
 refine norm_ (a' := ?_) ?_ ?_
 rotate_left
 ·simp only [putAll, Act.put, List.setIfInBounds_toArray, List.set_cons_zero, List.set_cons_succ]
  rfl
 refine one_ (i := 9) (N := none) (Zb 10 1023) rfl rfl (one_of HT_.out (by kernel_rfl)) (by decide) (fun K hK => ?_)
 refine st_store_blk 33 (.tmp 8) (.tmp 24) g8 (hdA ⟨kn, ⟨#[]⟩, ⟨#[]⟩, 0, 0, 0, 0, ⟨0, 0⟩, r.user, r.group, 0, 0, []⟩ (.slice none 0 0)) HX8.out ?_
 intro w3 h1 h2 h3 h4
 have HI : Hid (IT w w3 r g8 ⟨kn, ⟨#[]⟩, ⟨#[]⟩, 0, 0, 0, 0, ⟨0, 0⟩, r.user, r.group, 0, 0, []⟩ (.slice none 0 0)) := Lib.hid ⟨h4 _ _ (by have := HG8.out; omega) HB.out, (h2 _ (by have := HG8.out; omega)).trans HX.out, (h2 _ (by have := HG8.out; omega)).trans HZ.out, h1, HG8.out, Kd.R_nil _ _ _ _ _⟩
 clear h1 h2 h3 h4 HB HX HZ HX8
 refine hK.out _ _ ⟨blk_cell HI.out.box 1, blk_cell HI.out.box 5, blk_cell HI.out.box 6⟩ (fun hHeld => ?_)
 clear hK K
 refine Zq HT_ ?_
 clear HT_ HW_
 have c80 : w3.cell? ⟨g8, 0, none⟩ = some (.int .i64 kn) := blk_cell HI.out.hd 0
 have c50 : w3.cell? ⟨w.heap.size, 0, none⟩ = some (.int .i64 r.mark) := blk_cell HI.out.box 0
 have HDV : Hid ((((kn == 4) || (kn == 5)) && !(r.mark == 0)) = devV r) := Lib.hid (by unfold devV; rw [HKE.out])
 obtain ⟨dv, hdv⟩ : ∃ dv, devV r = dv := ⟨_, rfl⟩
 rw [hdv] at HDV
 have HDE := Lib.hid hdv
 clear hdv
 go_upto_region 2 with (fail)
 go_cut [9] (fun v9 wc => v9 = .bool dv ∧ wc = w3)
 case first => as_aux_lemma =>
  cases h4 : (kn == 4) with
  | true =>
   rw [h4] at HDV
   go_wp2
   go_meet
   case rel => exact ⟨by rw [← HDV.out]; rfl, rfl⟩
  | false =>
   rw [h4] at HDV
   cases h5 : (kn == 5) with
   | true =>
    rw [h5] at HDV
    go_wp2
    go_meet
    case rel => exact ⟨by rw [← HDV.out]; rfl, rfl⟩
   | false =>
    rw [h5] at HDV
    go_wp2
    go_meet
    case rel => exact ⟨by rw [← HDV.out]; rfl, rfl⟩
 case rest =>
 obtain ⟨rfl, rfl⟩ := hcut
 clear HDV
 go_wp2_with fail
 refine (snumbers_calls ⟨kn, ⟨#[]⟩, ⟨#[]⟩, 0, 0, 0, 0, ⟨0, 0⟩, r.user, r.group, 0, 0, []⟩ (.slice none 0 0) rfl g8 A0 c0 l0 _ (Kd.C_below HR0.out HI.out.bel) HC0.out HL0.out HB0.out HI.out.hd (fun ad e => by have := HAD.out ad e; have := HI.out.lt; omega) dv).mono ?_
 rintro e w4 ⟨rfl, hg4, h1, hx4, he4⟩
 cases hbad : (numsV l0 dv == 0) with
 | false =>
  have HNE := Lib.hid (show numsV l0 dv ≠ 0 from beq_eq_false_iff_ne.1 hbad)
  obtain rfl : R = (hd0, numsV l0 dv) := by
   rw [← HRR.out]
   unfold itemC
   rw [HDE.out, if_pos HNE.out]
  have HRES := Lib.hid ((hg4.block _ (blk_lt HI.out.res) (fun e => by have := HI.out.lt; injection e with e; omega)).trans HI.out.res)
  have HBB := Lib.hid (below_grown HI.out.bel hg4 (by have := HI.out.lt; omega) HI.out.bel.size (Nat.le_refl _))
  clear hg4 hx4 he4 HI
  go_wp2_with ((with_reducible refine wpList_store_blk rfl 33 (.tmp 6) (.tmp 43) rfl (w.heap.size + 1) hdZ rfl rfl HRES.out rfl (by kernel_rfl) (by kernel_rfl) ?_); intro w5 h1 h2 h3 h4; replace HRES := Lib.hid h1; replace HBB := Lib.hid (h4 _ _ (by omega) HBB.out); clear h1 h2 h3 h4)
  refine bodyPost_ret (results_blk rfl _ _ (w.heap.size + 1) 33 hdZ (0, 0) _ (.int .u8 (numsV l0 dv)) rfl HRES.out rfl Tryz.underlying33 rfl (by kernel_rfl)) rfl ⟨.slice none 0 0, rfl, Kd.R_nil _ _ _ _ _, HBB.out⟩
 | true =>
  have HEQ := Lib.hid (show numsV l0 dv = 0 from eq_of_beq hbad)
  obtain rfl := he4 HEQ.out
  have HRW := Lib.hid (fun nm lk => by have := num_raw l0 r dv HDE.out nm lk; rw [HKE.out] at this; exact this)
  have hk12 := num_keep l0 ⟨kn, ⟨#[]⟩, ⟨#[]⟩, 0, 0, 0, 0, ⟨0, 0⟩, r.user, r.group, 0, 0, []⟩ (lenN dv)
  obtain ⟨H1, hH1⟩ : ∃ H1, numH l0 ⟨kn, ⟨#[]⟩, ⟨#[]⟩, 0, 0, 0, 0, ⟨0, 0⟩, r.user, r.group, 0, 0, []⟩ (lenN dv) = H1 := ⟨_, rfl⟩
  rw [hH1] at HRW hk12 hx4
  have HK12 := Lib.hid hk12
  have HI2 : Hid (IT w w4 r g8 H1 (.slice none 0 0)) := Lib.hid (HI.out.grown hg4 hx4 (by rw [hk12.2]; exact Kd.R_nil _ _ _ _ _))
  clear hg4 hx4 he4 HI hH1 hk12
  have c80 : w4.cell? ⟨g8, 0, none⟩ = some (.int .i64 kn) := (blk_cell HI2.out.hd 0).trans (by show some (Value.int .i64 H1.f0) = _; rw [HK12.out.1])
  obtain ⟨lk, hlk⟩ : ∃ lk, linksV r = lk := ⟨_, rfl⟩
  have HLV := Lib.hid (show ((kn == 2) || (kn == 3)) = lk by rw [← hlk]; unfold linksV; rw [HKE.out])
  have HLK := Lib.hid hlk
  clear hlk
  go_upto_region 6 with (fail)
  go_cut [11] (fun v11 wc => v11 = .bool lk ∧ wc = w4)
  case first => as_aux_lemma =>
   cases h2 : (kn == 2) with
   | true =>
    rw [h2] at HLV
    go_wp2
    go_meet
    case rel => exact ⟨by rw [← HLV.out]; rfl, rfl⟩
   | false =>
    rw [h2] at HLV
    go_wp2
    go_meet
    case rel => exact ⟨by rw [← HLV.out]; rfl, rfl⟩
  case rest =>
  obtain ⟨rfl, rfl⟩ := hcut
  clear HLV
  go_wp2_with fail
  refine start_ (n := 8) (S := fun w' => w'.cell? ⟨w.heap.size, 3, none⟩ = some (.string r.link)) (ds := []) #[false, false, false, false, false, false, false, false] (by kernel_rfl) rfl rfl (blk_cell (blk_drew HI2.out.box) 3) (fun hHeld => ?_); refine with_tabW dItm.tab7 dItm.bits7 (fun HT_ HW_ => ?_)
  replace HI2 := Lib.hid (HI2.out.below ((Below.refl _ _).drew))
  generalize World.drew _ = w5 at HI2 hHeld ⊢
  refine Zp 2 55 (Zb 8 4) HT_ ?_
  refine Zt 3 56 (Zb 8 12) HT_ HW_ hHeld ?_
  refine Zo 0 53 (Zb 8 13) HT_ fun K hK => ?_
  refine st_load_blk 119 (.tmp 5) w.heap.size HI2.out.box _ Tryz.underlying119 ?_
  refine hK.out _ _ (blk_cell HI2.out.box 3) (fun hHeld => ?_)
  clear hK K
  refine Zn ?_
  refine Zo 1 54 (Zb 8 15) HT_ fun K hK => ?_
  refine Zg Tryz.func108 #[.agg (rawA r)] ?_
  refine (head_Full.calls _ _ _ _ _ _ _ _ _ _ _ _ _ _ _ _ (HFU.out 0 0 0 0 0 0 0)).mono ?_
  rintro e w6 ⟨rfl, hb⟩
  replace HI2 := Lib.hid (HI2.out.below hb)
  clear hb
  refine ⟨_, rfl, ?_⟩
  refine hK.out _ _ (blk_cell HI2.out.box 3) (fun hHeld => ?_)
  clear hK K
  refine Zn ?_
  refine Zp 4 57 (Zb 8 31) HT_ ?_
  refine one_ (i := 5) (N := none) (Zb 8 63) rfl rfl (one_of HT_.out (by kernel_rfl)) (by decide) (fun K hK => ?_)
  refine st_store_fld 9 (.tmp 57) (.tmp 54) g8 1 (.string (fullV r)) HI2.out.hd ?_
  intro w7 h1 h2 h3 h4
  replace HI2 := Lib.hid (HI2.out.upd (h' := { H1 with f1 := fullV r }) h1 h2 h4)
  clear h1 h2 h3 h4
  refine hK.out _ _ (blk_cell HI2.out.box 3) (fun hHeld => ?_)
  clear hK K
  refine Zp 6 58 (Zb 8 127) HT_ ?_
  refine one_ (i := 7) (N := none) (Zb 8 255) rfl rfl (one_of HT_.out (by kernel_rfl)) (by decide) (fun K hK => ?_)
  refine st_store_fld 9 (.tmp 58) (.tmp 56) g8 2 (.string r.link) HI2.out.hd ?_
  intro w8 h1 h2 h3 h4
  have HI3 : Hid (IT w w8 r g8 (rawH l0 r (fullV r) r.link) (.slice none 0 0)) := Lib.hid (by rw [← HRW.out]; exact HI2.out.upd (h' := { H1 with f1 := fullV r, f2 := r.link }) h1 h2 h4)
  clear h1 h2 h3 h4 HI2
  refine hK.out _ _ (blk_cell HI3.out.box 3) (fun hHeld => ?_)
  clear hK K
  refine Zq HT_ ?_
  clear HT_ HW_
  have c54 : w8.cell? ⟨w.heap.size, 4, none⟩ = some (.string r.pre) := blk_cell HI3.out.box 4
  have c52 : w8.cell? ⟨w.heap.size, 2, none⟩ = some (.string r.name) := blk_cell HI3.out.box 2
  obtain ⟨nl, hnl⟩ : ∃ nl, (!(r.pre.toList == []) && (r.name.toList == [])) = nl := ⟨_, rfl⟩
  have HNLS := Lib.hid hnl
  clear hnl
  go_upto_region 8 with (fail)
  go_cut [12] (fun v12 wc => v12 = .bool nl ∧ wc = w8)
  case first => as_aux_lemma =>
   cases hpr : (r.pre.toList == []) with
   | true =>
    rw [hpr] at HNLS
    go_wp2
    go_meet
    case rel => exact ⟨by rw [← HNLS.out]; rfl, rfl⟩
   | false =>
    rw [hpr] at HNLS
    go_wp2
    go_meet
    case rel => exact ⟨by rw [← HNLS.out]; cases r.name.toList <;> rfl, rfl⟩
  case rest =>
  obtain ⟨rfl, rfl⟩ := hcut
  generalize hgen : wc = w9 at *
  clear hgen
  have d6 : w9.cell? ⟨D, 6, none⟩ = some (.bool (decide (0 ≤ d.p.aN))) := blk_cell (HT.out.below HI3.out.bel).ds.blk 6
  have d4 : w9.cell? ⟨D, 4, none⟩ = some (.string d.p.name) := blk_cell (HT.out.below HI3.out.bel).ds.blk 4
  go_upto_if 71 with (fail)
  go_cut [12] (fun v12 wc => v12 = .bool (if decide (0 ≤ d.p.aN) = true then false else nl) ∧ Aside0 (IT w wc r g8 (rawH l0 r (if decide (0 ≤ d.p.aN) = true then d.p.name else fullV r) r.link) (.slice none 0 0)))
  case first => as_aux_lemma =>
   cases hn : decide (0 ≤ d.p.aN) with
   | true =>
    rw [hn] at d6
    go_wp2_with ((with_reducible refine wpList_store_fld rfl 9 (.tmp 77) (.tmp 76) rfl g8 1 (.string d.p.name) rfl rfl HI3.out.hd (by kernel_rfl) (by kernel_rfl) rfl ?_); intro w10 h1 h2 h3 h4; have HI4 : Hid (IT w w10 r g8 (rawH l0 r d.p.name r.link) (.slice none 0 0)) := Lib.hid (HI3.out.upd h1 h2 h4); clear h1 h2 h3 h4)
    go_meet
    case rel => exact ⟨by rw [hn]; rfl, ⟨by rw [hn]; exact HI4.out⟩⟩
   | false =>
    rw [hn] at d6
    go_wp2
    go_meet
    case rel => exact ⟨by rw [hn]; rfl, ⟨by rw [hn]; exact HI3.out⟩⟩
  case rest =>
  obtain ⟨hv12, HI4⟩ := hcut
  obtain ⟨nl1, hnl1⟩ : ∃ nl1, (if decide (0 ≤ d.p.aN) = true then false else nl) = nl1 := ⟨_, rfl⟩
  rw [hnl1] at hv12
  subst hv12
  have HN1 := Lib.hid hnl1
  clear HI3 d6 d4 c54 c52 hnl1
  have d9 : wc.cell? ⟨D, 9, none⟩ = some (.bool (decide (0 ≤ d.p.aL))) := blk_cell (HT.out.below HI4.out.bel).ds.blk 9
  have d7 : wc.cell? ⟨D, 7, none⟩ = some (.string d.p.link) := blk_cell (HT.out.below HI4.out.bel).ds.blk 7
  go_upto_if 82 with (fail)
  go_cut [] (fun wz => Aside0 (IT w wz r g8 (rawH l0 r (if decide (0 ≤ d.p.aN) = true then d.p.name else fullV r) (if decide (0 ≤ d.p.aL) = true then d.p.link else r.link)) (.slice none 0 0)))
  case first => as_aux_lemma =>
   cases hn : decide (0 ≤ d.p.aL) with
   | true =>
    rw [hn] at d9
    go_wp2_with ((with_reducible refine wpList_store_fld rfl 9 (.tmp 88) (.tmp 87) rfl g8 2 (.string d.p.link) rfl rfl HI4.out.hd (by kernel_rfl) (by kernel_rfl) rfl ?_); intro w10 h1 h2 h3 h4; have HI5 : Hid (IT w w10 r g8 (rawH l0 r (if decide (0 ≤ d.p.aN) = true then d.p.name else fullV r) d.p.link) (.slice none 0 0)) := Lib.hid (HI4.out.upd h1 h2 h4); clear h1 h2 h3 h4)
    go_meet
    case rel => exact ⟨by rw [hn]; exact HI5.out⟩
   | false =>
    rw [hn] at d9
    go_wp2
    go_meet
    case rel => exact ⟨by rw [hn]; exact HI4.out⟩
  case rest =>
  clear HI4 d9 d7
  have HI5 := hcut
  clear hcut
  have hnm : (if decide (0 ≤ d.p.aN) = true then d.p.name else fullV r) = nameC r d.p := by
   unfold nameC
   by_cases e : 0 ≤ d.p.aN <;> simp [e]
  have hlk2 : (if decide (0 ≤ d.p.aL) = true then d.p.link else r.link) = (if 0 ≤ d.p.aL then d.p.link else r.link) := by
   by_cases e : 0 ≤ d.p.aL <;> simp [e]
  rw [hnm, hlk2] at HI5
  obtain ⟨H5, hH5⟩ : ∃ H5, rawH l0 r (nameC r d.p) (if 0 ≤ d.p.aL then d.p.link else r.link) = H5 := ⟨_, rfl⟩
  rw [hH5] at HI5
  have HH5 := Lib.hid hH5
  clear hnm hlk2 hH5
  go_wp2_with fail
  refine start_ (n := 10) (S := fun w' => w'.cell? ⟨D, 13, none⟩ = some (.slice A2 d.p.glo.length k2) ∧ w'.cell? ⟨D, 10, none⟩ = some (.slice A1 d.p.loc.length k1)) (ds := []) #[false, false, false, false, false, false, false, false, false, false] (by kernel_rfl) rfl rfl ⟨blk_cell (HT.out.below (HI5.out.below ((Below.refl _ _).drew)).bel).ds.blk 13, blk_cell (HT.out.below (HI5.out.below ((Below.refl _ _).drew)).bel).ds.blk 10⟩ (fun hHeld => ?_); refine with_tabW dItm.tab13 dItm.bits13 (fun HT_ HW_ => ?_)
  replace HI5 := Lib.hid (HI5.out.below ((Below.refl _ _).drew))
  generalize World.drew _ = w12 at HI5 hHeld ⊢
  refine Zp 0 89 (Zb 10 1) HT_ ?_
  refine Zp 1 90 (Zb 10 3) HT_ ?_
  refine Zp 2 91 (Zb 10 7) HT_ ?_
  refine Zp 4 93 (Zb 10 23) HT_ ?_
  refine Zp 5 94 (Zb 10 55) HT_ ?_
  refine Zp 6 95 (Zb 10 119) HT_ ?_
  refine Zt 3 92 (Zb 10 127) HT_ HW_ hHeld ?_
  refine Zt 7 96 (Zb 10 255) HT_ HW_ hHeld ?_
  refine Zo 8 97 (Zb 10 511) HT_ fun K hK => ?_
  refine Zg Tryz.func63 #[.slice A2 d.p.glo.length k2, .slice A1 d.p.loc.length k1] ?_
  have hTT := HT.out.below HI5.out.bel
  refine (Lay_calls A2 k2 d.p.glo A1 k1 d.p.loc _ (Kd.R_reads' hTT.ds.hg).2.2 HNL.out.2 (Kd.R_reads' hTT.ds.hl).2.2 HNL.out.1 (HP.out.len)).mono ?_
  clear hTT
  rintro e w13 ⟨v13, rfl, hr13, hb13⟩
  replace HI5 := Lib.hid (HI5.out.below hb13)
  obtain ⟨A3, k3, rfl, n3, C3⟩ := Kd.R_reads hr13
  have HC3 := Lib.hid C3
  have HN3 := Lib.hid n3
  clear hr13 hb13 C3 n3
  refine ⟨_, rfl, ?_⟩
  refine hK.out _ _ ⟨blk_cell (HT.out.below HI5.out.bel).ds.blk 13, blk_cell (HT.out.below HI5.out.bel).ds.blk 10⟩ (fun hHeld => ?_)
  clear hK K
  refine Zn ?_
  refine Zp 9 13 (Zb 10 1023) HT_ ?_
  refine Zq HT_ ?_
  clear HT_ HW_
  have HL3 := Lib.hid (lay_len d.p.glo d.p.loc)
  have HOV := Lib.hid (HP.out.over)
  have HMM := Lib.hid (fun (x : Pr) (hx : x ∈ layP d.p.glo d.p.loc) => (HP.out.sz x (layP_mem hx)).2)
  obtain ⟨L, hL⟩ : ∃ L, layP d.p.glo d.p.loc = L := ⟨_, rfl⟩
  rw [hL] at HC3 HN3 HL3 HOV HMM
  have HLE := Lib.hid hL
  have HLL := Lib.hid (show L.length < 1000000 by have := HL3.out; have := HP.out.len; omega)
  rw [hL]
  clear hL HL3
  go_wp2_with fail
  refine (get_calls ⟨#[112, 97, 116, 104]⟩ A3 k3 L _ HC3.out HN3.out (by have := HLL.out; omega)).mono ?_
  rintro e w14 ⟨rfl, hb14⟩
  replace HI5 := Lib.hid (HI5.out.below hb14)
  replace HC3 := Lib.hid (Kd.C_below HC3.out hb14)
  clear hb14
  have hany := getV_any ⟨#[112, 97, 116, 104]⟩ L
  obtain ⟨G1, hG1⟩ : ∃ G1, (getV ⟨#[112, 97, 116, 104]⟩ L).1 = G1 := ⟨_, rfl⟩
  obtain ⟨G2, hG2⟩ : ∃ G2, (getV ⟨#[112, 97, 116, 104]⟩ L).2 = G2 := ⟨_, rfl⟩
  rw [hG1, hG2]
  rw [hG2] at hany
  have HLS : Hid ((if G2 = true then false else nl1) = lessC r d.p) := Lib.hid (by
   unfold lessC
   rw [HLE.out, HNLS.out, ← HN1.out]
   have e2 : (L.any fun q => q.f0.toList == [112, 97, 116, 104]) = G2 := by
    rw [hany]
    congr 1
    funext q
    rw [show (⟨#[112, 97, 116, 104]⟩ : ByteArray).toList = [112, 97, 116, 104] from by rw [Lib.toList_data]]
   rw [e2]
   by_cases e : 0 ≤ d.p.aN
   ·rw [if_pos e, decide_eq_true e]; cases G2 <;> rfl
   ·rw [if_neg e, decide_eq_false e]; cases G2 <;> rfl)
  clear hany hG1 hG2 HNLS
  obtain ⟨lc, hlc⟩ : ∃ lc, lessC r d.p = lc := ⟨_, rfl⟩
  rw [hlc] at HLS
  have HLC := Lib.hid hlc
  clear hlc
  go_upto_if 103 with (fail)
  go_cut [12] (fun v12 wz => v12 = .bool lc ∧ wz = w14)
  case first => as_aux_lemma =>
   cases G2 with
   | true =>
    go_wp2
    go_meet
    case rel => exact ⟨by rw [← HLS.out]; rfl, rfl⟩
   | false =>
    go_wp2
    go_meet
    case rel => exact ⟨by rw [← HLS.out]; rfl, rfl⟩
  case rest =>
  obtain ⟨rfl, rfl⟩ := hcut
  clear HLS
  rename_i w15 _
  go_wp2_with ((with_reducible refine wpList_load_blk rfl 33 (.tmp 8) rfl g8 rfl HI5.out.hd _ Tryz.underlying33 rfl (by kernel_rfl) ?_))
  have h512 : ({ H5 with f12 := [] } : HdP) = H5 := by rw [← HH5.out]; rfl
  refine (apply_calls H5 (.slice none 0 0) A3 k3 L _ HC3.out HN3.out (Glob.below HG.out HI5.out.bel) _ HOV.out HLL.out (fun p hp => by have := HMM.out p hp; omega) rfl).mono ?_
  rintro e w16 ⟨v9, rfl, hr16, hb16⟩
  rw [h512] at hr16
  obtain ⟨F, hF⟩ : ∃ F, L.foldl stepH H5 = F := ⟨_, rfl⟩
  rw [hF] at hr16
  have HFE : Hid (cutL2 F lk = laidH l0 r d.p (nameC r d.p)) := Lib.hid (by
   unfold laidH
   rw [HLK.out, HLE.out, HH5.out, hF])
  rw [h512, hF]
  have HR9 := Lib.hid (show Kd.R k127 127 w16 w.heap.size (fun k => w.heap.size ≤ k) v9 F.f12 from Kd.R_mono (Kd.R_lower hr16 HI5.out.bel.size) (fun k hk => Nat.le_trans HI5.out.bel.size hk))
  replace HI5 := Lib.hid (HI5.out.below hb16)
  clear hr16 hb16 hF HC3 HN3 h512
  go_upto_if 115 with ((with_reducible refine wpList_store_blk rfl 33 (.tmp 8) (.tmp 108) rfl g8 (hdA F v9) rfl rfl HI5.out.hd rfl (by kernel_rfl) (hd_one F v9 (R_one HR9.out)) ?_); intro w17 h1 h2 h3 h4; have HI6 : Hid (IT w w17 r g8 F v9) := Lib.hid (HI5.out.set h1 h2 h4 HR9.out); clear h1 h2 h3 h4)
  go_cut [] (fun wz => Aside0 (IT w wz r g8 (cutL2 F lk) v9))
  case first => as_aux_lemma =>
   cases lk with
   | true =>
    go_wp2
    go_meet
    case rel => exact ⟨HI6.out⟩
   | false =>
    go_wp2_with ((with_reducible refine wpList_store_fld rfl 9 (.tmp 116) (.const (.string ⟨#[]⟩)) rfl g8 2 (.string ⟨#[]⟩) rfl rfl HI6.out.hd (by kernel_rfl) (by kernel_rfl) rfl ?_); intro w18 h1 h2 h3 h4; have HI7 : Hid (IT w w18 r g8 (cutL2 F false) v9) := Lib.hid (HI6.out.upd (h' := { F with f2 := emT }) h1 h2 h4); clear h1 h2 h3 h4)
    go_meet
    case rel => exact ⟨HI7.out⟩
  case rest =>
  have HI7 := hcut
  rw [HFE.out] at HI7
  obtain ⟨H7, hH7⟩ : ∃ H7, laidH l0 r d.p (nameC r d.p) = H7 := ⟨_, rfl⟩
  rw [hH7] at HI7
  have HF0 := Lib.hid (show H7.f0 = kn by rw [← hH7, laid_f0, HKE.out])
  have HSZ := Lib.hid (show H7.f1.size ≤ 1000000 ∧ H7.f2.size ≤ 1000000 by rw [← hH7]; exact laid_sz HP.out HRS.out)
  have HRQ : Hid (R = if lc = true then (hd0, 10) else endV H7 kn lk) := Lib.hid (by
   rw [← HRR.out]
   unfold itemC
   rw [HDE.out, if_neg (fun e => e HEQ.out), HLC.out, hH7, HKE.out, HLK.out])
  clear hcut HI6 HI5 HR9 hH7 HFE HRW HRR
  have c81 : wc.cell? ⟨g8, 1, none⟩ = some (.string H7.f1) := blk_cell HI7.out.hd 1
  have c82 : wc.cell? ⟨g8, 2, none⟩ = some (.string H7.f2) := blk_cell HI7.out.hd 2
  obtain ⟨bb, hbb⟩ : ∃ bb, ((H7.f1.toList == []) || lc || (lk && (H7.f2.toList == []))) = bb := ⟨_, rfl⟩
  have HBE := Lib.hid hbb
  have HRS2 : Hid (R = if bb = true then (hd0, 10) else if H7.f6 > 0 ∧ (toldV kn H7.f1).1 ≠ 1 then (hd0, 11) else ({ H7 with f0 := (toldV kn H7.f1).1, f1 := (toldV kn H7.f1).2 }, 0)) := Lib.hid (by
   rw [HRQ.out, ← hbb, size0, size0]
   unfold endV
   cases lc with
   | true => simp
   | false =>
    by_cases e1 : H7.f1.size = 0
    ·simp [e1]
    ·cases lk with
     | true => by_cases e2 : H7.f2.size = 0 <;> simp [e1, e2]
     | false => simp [e1])
  clear HRQ hbb
  go_upto_region 22 with (fail)
  go_cut [130] (fun v130 wz => v130 = .bool bb ∧ wz = wc)
  case first => as_aux_lemma =>
   cases hn : (H7.f1.toList == []) with
   | true =>
    rw [hn] at HBE
    go_wp2
    go_meet
    case rel => exact ⟨by rw [← HBE.out]; rfl, rfl⟩
   | false =>
    rw [hn] at HBE
    cases lc with
    | true =>
     go_wp2
     go_meet
     case rel => exact ⟨by rw [← HBE.out]; rfl, rfl⟩
    | false =>
     cases lk with
     | true =>
      go_wp2
      go_meet
      case rel => exact ⟨by rw [← HBE.out]; cases H7.f2.toList <;> rfl, rfl⟩
     | false =>
      go_wp2
      go_meet
      case rel => exact ⟨by rw [← HBE.out]; rfl, rfl⟩
  case rest =>
  obtain ⟨rfl, rfl⟩ := hcut
  clear HBE
  cases bb with
  | true =>
   obtain rfl : R = (hd0, 10) := by rw [HRS2.out, if_pos rfl]
   go_wp2_with ((with_reducible refine wpList_store_blk rfl 33 (.tmp 6) (.tmp 131) rfl (w.heap.size + 1) hdZ rfl rfl HI7.out.res rfl (by kernel_rfl) (by kernel_rfl) ?_); intro w20 h1 h2 h3 h4; have HRES := Lib.hid h1; have HBB := Lib.hid (h4 _ _ (by omega) HI7.out.bel); clear h1 h2 h3 h4)
   refine bodyPost_ret (results_blk rfl _ _ (w.heap.size + 1) 33 hdZ (0, 0) _ (.int .u8 10) rfl HRES.out rfl Tryz.underlying33 rfl (by kernel_rfl)) rfl ⟨.slice none 0 0, rfl, Kd.R_nil _ _ _ _ _, HBB.out⟩
  | false =>
   rw [if_neg (by decide)] at HRS2
   have c80 := blk_cell HI7.out.hd 0
   rw [show (hdA H7 v9)[0]? = some (Value.int .i64 H7.f0) from rfl, HF0.out] at c80
   obtain ⟨T1, hT1⟩ : ∃ T1, (toldV kn H7.f1).1 = T1 := ⟨_, rfl⟩
   obtain ⟨T2, hT2⟩ : ∃ T2, (toldV kn H7.f1).2 = T2 := ⟨_, rfl⟩
   have HTS := Lib.hid (show T2.size ≤ 1000000 by rw [← hT2]; exact Nat.le_trans (told_sz kn H7.f1) HSZ.out.1)
   have HTC := Lib.hid (told_calls kn H7.f1 (by have := HSZ.out.1; omega))
   rw [hT1, hT2] at HTC HRS2
   clear hT1 hT2
   obtain ⟨cb, hcb⟩ : ∃ cb, (decide (H7.f6 > 0) && !(T1 == 1)) = cb := ⟨_, rfl⟩
   have HCB := Lib.hid hcb
   have HRS3 : Hid (R = if cb = true then (hd0, 11) else ({ H7 with f0 := T1, f1 := T2 }, 0)) := Lib.hid (by
    rw [HRS2.out, ← hcb]
    by_cases e1 : H7.f6 > 0
    ·by_cases e2 : T1 = 1
     ·simp [e2]
     ·simp [e1, e2]
    ·simp [e1])
   clear HRS2 hcb
   go_wp2_with fail
   refine (HTC.out _).mono ?_
   rintro e w20 ⟨rfl, rfl⟩
   clear c80 c81 c82
   go_upto_region 25 with (first
    | ((with_reducible refine wpList_store_fld rfl 3 (.tmp 140) (.tmp 138) rfl g8 0 (.int .i64 T1) rfl rfl HI7.out.hd (by kernel_rfl) (by kernel_rfl) rfl ?_); intro w21 h1 h2 h3 h4; have HI8 : Hid (IT w w21 r g8 { H7 with f0 := T1 } v9) := Lib.hid (HI7.out.upd h1 h2 h4); clear h1 h2 h3 h4)
    | ((with_reducible refine wpList_store_fld rfl 9 (.tmp 141) (.tmp 139) rfl g8 1 (.string T2) rfl rfl HI8.out.hd (by kernel_rfl) (by kernel_rfl) rfl ?_); intro w22 h1 h2 h3 h4; have HI9 : Hid (IT w w22 r g8 { H7 with f0 := T1, f1 := T2 } v9) := Lib.hid (HI8.out.upd h1 h2 h4); clear h1 h2 h3 h4; have c86 : w22.cell? ⟨g8, 6, none⟩ = some (.int .i64 H7.f6) := blk_cell HI9.out.hd 6; have c80 : w22.cell? ⟨g8, 0, none⟩ = some (.int .i64 T1) := blk_cell HI9.out.hd 0))
   try dsimp only [Act.put]
   go_cut [149] (fun v149 wz => v149 = .bool cb ∧ wz = w22)
   case first => as_aux_lemma =>
    cases hs : decide (H7.f6 > 0) with
    | true =>
     rw [hs] at HCB
     have hs2 : decide (0 < H7.f6) = true := hs
     go_wp2
     go_meet
     case rel => exact ⟨by rw [← HCB.out]; rfl, rfl⟩
    | false =>
     rw [hs] at HCB
     have hs2 : decide (0 < H7.f6) = false := hs
     go_wp2
     go_meet
     case rel => exact ⟨by rw [← HCB.out]; rfl, rfl⟩
   case rest =>
   obtain ⟨rfl, rfl⟩ := hcut
   clear HCB c86 c80
   cases cb with
   | true =>
    obtain rfl : R = (hd0, 11) := by rw [HRS3.out, if_pos rfl]
    go_wp2_with ((with_reducible refine wpList_store_blk rfl 33 (.tmp 6) (.tmp 150) rfl (w.heap.size + 1) hdZ rfl rfl HI9.out.res rfl (by kernel_rfl) (by kernel_rfl) ?_); intro w20 h1 h2 h3 h4; have HRES := Lib.hid h1; have HBB := Lib.hid (h4 _ _ (by omega) HI9.out.bel); clear h1 h2 h3 h4)
    refine bodyPost_ret (results_blk rfl _ _ (w.heap.size + 1) 33 hdZ (0, 0) _ (.int .u8 11) rfl HRES.out rfl Tryz.underlying33 rfl (by kernel_rfl)) rfl ⟨.slice none 0 0, rfl, Kd.R_nil _ _ _ _ _, HBB.out⟩
   | false =>
    obtain rfl : R = ({ H7 with f0 := T1, f1 := T2 }, 0) := by rw [HRS3.out, if_neg (by decide)]
    go_wp2_with fail
    refine start_ (n := 10) (S := fun w' => w'.cell? ⟨g8, 1, none⟩ = some (.string T2) ∧ w'.cell? ⟨g8, 2, none⟩ = some (.string H7.f2)) (ds := []) #[false, false, false, false, false, false, false, false, false, false] (by kernel_rfl) rfl rfl ⟨blk_cell (blk_drew HI9.out.hd) 1, blk_cell (blk_drew HI9.out.hd) 2⟩ (fun hHeld => ?_); refine with_tabW dItm.tab27 dItm.bits27 (fun HT_ HW_ => ?_)
    replace HI9 := Lib.hid (HI9.out.below ((Below.refl _ _).drew))
    generalize World.drew _ = w23 at HI9 hHeld ⊢
    refine Zp 0 151 (Zb 10 1) HT_ ?_
    refine Zp 3 154 (Zb 10 9) HT_ ?_
    refine Zt 1 152 (Zb 10 11) HT_ HW_ hHeld ?_
    refine Zt 4 155 (Zb 10 27) HT_ HW_ hHeld ?_
    refine Zo 2 153 (Zb 10 31) HT_ fun K hK => ?_
    refine Zg Tryz.func112 #[.string T2] ?_
    refine (sclone_calls T2 _ (by have := HTS.out; omega)).mono ?_
    rintro e w24 ⟨rfl, hb⟩
    replace HI9 := Lib.hid (HI9.out.below hb)
    clear hb
    refine ⟨_, rfl, ?_⟩
    refine hK.out _ _ ⟨blk_cell HI9.out.hd 1, blk_cell HI9.out.hd 2⟩ (fun hHeld => ?_)
    clear hK K
    refine Zn ?_
    refine Zo 5 156 (Zb 10 63) HT_ fun K hK => ?_
    refine Zg Tryz.func112 #[.string H7.f2] ?_
    refine (sclone_calls H7.f2 _ (by have := HSZ.out.2; omega)).mono ?_
    rintro e w25 ⟨rfl, hb⟩
    replace HI9 := Lib.hid (HI9.out.below hb)
    clear hb
    refine ⟨_, rfl, ?_⟩
    refine hK.out _ _ ⟨blk_cell HI9.out.hd 1, blk_cell HI9.out.hd 2⟩ (fun hHeld => ?_)
    clear hK K
    refine Zn ?_
    refine Zp 6 157 (Zb 10 127) HT_ ?_
    refine one_ (i := 7) (N := none) (Zb 10 255) rfl rfl (one_of HT_.out (by kernel_rfl)) (by decide) (fun K hK => ?_)
    refine st_store_fld 9 (.tmp 157) (.tmp 153) g8 1 (.string T2) HI9.out.hd ?_
    intro w26 h1 h2 h3 h4
    replace HI9 := Lib.hid (HI9.out.upd (h' := { H7 with f0 := T1, f1 := T2 }) h1 h2 h4)
    clear h1 h2 h3 h4
    refine hK.out _ _ ⟨blk_cell HI9.out.hd 1, blk_cell HI9.out.hd 2⟩ (fun hHeld => ?_)
    clear hK K
    refine Zp 8 158 (Zb 10 511) HT_ ?_
    refine one_ (i := 9) (N := none) (Zb 10 1023) rfl rfl (one_of HT_.out (by kernel_rfl)) (by decide) (fun K hK => ?_)
    refine st_store_fld 9 (.tmp 158) (.tmp 156) g8 2 (.string H7.f2) HI9.out.hd ?_
    intro w27 h1 h2 h3 h4
    replace HI9 := Lib.hid (HI9.out.upd (h' := { H7 with f0 := T1, f1 := T2 }) h1 h2 h4)
    clear h1 h2 h3 h4
    refine hK.out _ _ ⟨blk_cell HI9.out.hd 1, blk_cell HI9.out.hd 2⟩ (fun hHeld => ?_)
    clear hK K
    refine Zq HT_ ?_
    clear HT_ HW_
    obtain ⟨H9, hH9⟩ : ∃ H9, ({ H7 with f0 := T1, f1 := T2 } : HdP) = H9 := ⟨_, rfl⟩
    rw [hH9] at HI9
    have HH9 := Lib.hid hH9
    clear hH9
    go_wp2_with first
     | ((with_reducible refine wpList_load_blk rfl 33 (.tmp 8) rfl g8 rfl HI9.out.hd _ Tryz.underlying33 rfl (by kernel_rfl) ?_))
     | ((with_reducible refine wpList_store_blk rfl 33 (.tmp 6) (.tmp 159) rfl (w.heap.size + 1) (hdA H9 v9) rfl rfl HI9.out.res rfl (by kernel_rfl) (hd_one H9 v9 (R_one HI9.out.ex)) ?_); intro w28 h1 h2 h3 h4; have HRES := Lib.hid h1; have HBB := Lib.hid (h4 _ _ (by omega) HI9.out.bel); have HEX := Lib.hid (R_past2 HI9.out.ex HI9.out.res (by decide) h2); clear h1 h2 h3 h4)
    refine bodyPost_ret (results_blk rfl _ _ (w.heap.size + 1) 33 (hdA H9 v9) (0, 0) _ (.int .u8 0) rfl HRES.out rfl Tryz.underlying33 rfl (by kernel_rfl)) rfl ⟨v9, by rw [← HH9.out], by have h9 := HEX.out; rw [← HH9.out] at h9; exact h9, HBB.out⟩
end
end Go.Proofs.YtddhkfdfhbpblaaGreatDoor.P
namespace Go.Proofs.YtddhkfdfhbpblaaGreatDoor.StepLaw
set_option linter.unusedVariables false
inductive Ev (H : Type) where
 | none : Ev H
 | item (h : H) : Ev H
 | data (d : List Int) : Ev H
 | fin : Ev H
structure Ops (α R H P : Type) where
 blank : α → Bool
 get : α → R × Int
 kind : R → Int
 flag : R → Int
 num : α → Int × Int
 bytes : α → List Int
 ext : Int → List Int → Int → P → P × Int
 item : α → R → P → H × Int
 size : H → Int
 held : P → Int
 first : P → Int
 clear : P → P
 bytes_len : ∀ b, (bytes b).length = 512
 num_nn : ∀ b, (num b).2 = 0 → 0 ≤ (num b).1
variable {α R H P : Type}
structure DS (P : Type) where
 st : Int
 blocks : Int
 fc : Int
 fb : Int
 p : P
 fl : Int
 from_ : Int
 buf : List Int
 left : Int
structure W (H : Type) where
 L : List (Ev H)
 fc : Int
 fb : Int
 ended : Bool
 due : Bool
 held : Int
def badW (L : List (Ev H)) (c at_ : Int) : W H := ⟨L, c, at_, false, false, 0⟩
def cnt (n : Int) : Nat := ((n + 511) / 512).toNat
def dataL (o : Ops α R H P) : Int → List α → List (Ev H)
 | _, [] => []
 | left, b :: t => if left > 0 then .data ((o.bytes b).take (min left 512).toNat) :: dataL o (left - min left 512) t else []
def runR (o : Ops α R H P) : Nat → List (Ev H) → P → Int → List α → W H
 | 0, L, p, at_, m => badW L 0 0
 | k + 1, L, p, at_, [] => ⟨L, 0, 0, false, false, o.held p⟩
 | k + 1, L, p, at_, b :: t =>
  if o.blank b = true then
   match t with
   | [] => ⟨L ++ [.none], 0, 0, false, false, o.held p⟩
   | c :: _ => if o.blank c = false then badW (L ++ [.none]) 4 at_ else if o.first p ≥ 0 then badW (L ++ [.none]) 7 (o.first p) else ⟨L ++ [.none] ++ [.fin], 0, 0, true, false, 0⟩
  else if (o.get b).2 ≠ 0 then badW L (o.get b).2 at_
  else if o.kind (o.get b).1 = 0 then
   if (o.num b).2 ≠ 0 then badW L (o.num b).2 at_
   else if (o.num b).1 > 65536 then badW L 12 at_
   else if t.length < cnt (o.num b).1 then ⟨L ++ List.replicate (t.length + 1) .none, 0, 0, false, true, o.held p + 512 * (t.length : Int)⟩
   else
    let r := o.ext (o.flag (o.get b).1) (((t.take (cnt (o.num b).1)).flatMap o.bytes).take (o.num b).1.toNat) at_ p
    if r.2 ≠ 0 then badW (L ++ List.replicate (cnt (o.num b).1) .none) r.2 at_
    else runR o k (L ++ List.replicate (cnt (o.num b).1) .none ++ [.none]) r.1 (at_ + (cnt (o.num b).1 : Int) + 1) (t.drop (cnt (o.num b).1))
  else if (o.item b (o.get b).1 p).2 ≠ 0 then badW L (o.item b (o.get b).1 p).2 at_
  else
   let h := (o.item b (o.get b).1 p).1
   if t.length < cnt (o.size h) then ⟨L ++ [.item h] ++ dataL o (o.size h) t, 0, 0, false, true, o.held (o.clear p)⟩
   else runR o k (L ++ [.item h] ++ dataL o (o.size h) (t.take (cnt (o.size h)))) (o.clear p) (at_ + 1 + (cnt (o.size h) : Int)) (t.drop (cnt (o.size h)))
def refW (o : Ops α R H P) (k : Nat) (d : DS P) (L : List (Ev H)) (m : List α) : W H :=
 if d.st = 0 then runR o (k + 1) L d.p d.blocks m
 else if d.st = 1 then
  if m.length < cnt d.left then ⟨L ++ List.replicate m.length .none, 0, 0, false, true, o.held d.p + (d.buf.length : Int) + 512 * (m.length : Int)⟩
  else
   let r := o.ext d.fl ((d.buf ++ (m.take (cnt d.left)).flatMap o.bytes).take (d.buf.length + d.left.toNat)) d.from_ d.p
   if r.2 ≠ 0 then badW (L ++ List.replicate (cnt d.left - 1) .none) r.2 d.from_
   else runR o k (L ++ List.replicate (cnt d.left) .none) r.1 (d.blocks + (cnt d.left : Int)) (m.drop (cnt d.left))
 else if d.st = 2 then
  if m.length < cnt d.left then ⟨L ++ dataL o d.left m, 0, 0, false, true, o.held d.p⟩
  else runR o k (L ++ dataL o d.left (m.take (cnt d.left))) d.p (d.blocks + (cnt d.left : Int)) (m.drop (cnt d.left))
 else
  match m with
  | [] => ⟨L, 0, 0, false, false, o.held d.p⟩
  | c :: _ => if o.blank c = false then badW L 4 (d.blocks - 1) else if o.first d.p ≥ 0 then badW L 7 (o.first d.p) else ⟨L ++ [.fin], 0, 0, true, false, 0⟩
structure Inv (d : DS P) (L : List (Ev H)) : Prop where
 st : d.st = 0 ∨ d.st = 1 ∨ d.st = 2 ∨ d.st = 3
 buf : d.st ≠ 1 → d.buf = []
 left : d.st = 1 ∨ d.st = 2 → 0 < d.left
 fc : d.fc = 0
 fb : d.fb = 0
 bl : d.blocks = (L.length : Int)
structure Szs (o : Ops α R H P) (right : H → Prop) where
 nm : P → Int
 lk : P → Int
 lo : P → Int
 gl : P → Int
 /-- all that is pending lies at blocks from 0 on, ahead of one. -/
 ats : P → Int → Prop
 held_is : ∀ p, o.held p = nm p + lk p + lo p + gl p
 nn : ∀ p, 0 ≤ nm p ∧ 0 ≤ lk p ∧ 0 ≤ lo p ∧ 0 ≤ gl p
 clear_is : ∀ p, nm (o.clear p) = 0 ∧ lk (o.clear p) = 0 ∧ lo (o.clear p) = 0 ∧ gl (o.clear p) = gl p
 ext_is : ∀ fl buf f p, (o.ext fl buf f p).2 = 0 →
  (nm (o.ext fl buf f p).1 = nm p ∨ nm (o.ext fl buf f p).1 ≤ (buf.length : Int)) ∧ (lk (o.ext fl buf f p).1 = lk p ∨ lk (o.ext fl buf f p).1 ≤ (buf.length : Int)) ∧
  (lo (o.ext fl buf f p).1 = lo p ∨ lo (o.ext fl buf f p).1 ≤ (buf.length : Int)) ∧ gl (o.ext fl buf f p).1 ≤ gl p + (buf.length : Int)
 first_lt : ∀ p n, ats p n → o.first p < n
 ats_mono : ∀ p m n, ats p m → m ≤ n → ats p n
 ats_ext : ∀ fl buf f p n, ats p n → 0 ≤ f → f < n → ats (o.ext fl buf f p).1 n
 ats_clear : ∀ p n, ats p n → ats (o.clear p) n
 item_right : ∀ b r p, (o.item b r p).2 = 0 → right (o.item b r p).1
 size_nn : ∀ b r p, (o.item b r p).2 = 0 → 0 ≤ o.size (o.item b r p).1
structure RInv {o : Ops α R H P} {right : H → Prop} (s : Szs o right) (d : DS P) (left : Int) : Prop where
 st : d.st = 0 ∨ d.st = 1 ∨ d.st = 2 ∨ d.st = 3
 two : d.st = 2 → d.left = left ∧ 0 < left
 nottwo : d.st ≠ 2 → left = 0
 buf : d.st ≠ 1 → d.buf = []
 one : d.st = 1 → 0 < d.left ∧ (d.buf.length : Int) + d.left ≤ 65536 ∧ 0 ≤ d.from_ ∧ d.from_ < d.blocks
 three : d.st = 3 → 1 ≤ d.blocks
 bl : 0 ≤ d.blocks
 pn : s.nm d.p ≤ 65536
 pl : s.lk d.p ≤ 65536
 po : s.lo d.p ≤ 65536
 pg : s.gl d.p + (d.buf.length : Int) ≤ 512 * d.blocks
 at_ : s.ats d.p d.blocks
structure Out (H : Type) where
 items : List (H × List Int)
 code : Int
 at_ : Int
 next : Int
end Go.Proofs.YtddhkfdfhbpblaaGreatDoor.StepLaw
namespace Go.Proofs.YtddhkfdfhbpblaaGreatDoor.P
open Go.RowKit Go.Proofs.YtddhkfdfhbpblaaGreatDoorW.PrintWords Go.Proofs.YtddhkfdfhbpblaaGreatDoorW.PrintLast Go.Proofs.YtddhkfdfhbpblaaGreatDoorW.PrintMore
open Go.Proofs.YtddhkfdfhbpblaaGreatDoor
set_option linter.unusedVariables false
attribute [local go_sem] Oper.semAt_some
def dHdr.T19 : Bool × List (List Nat × List Nat) := (true, [([], []), ([], []), ([], []), ([2], [2]), ([0, 0], [0]), ([4, 0], [4]), ([5, 0], [5]), ([1, 0, 1, 2, 3, 4, 5, 6], [1]), ([7, 0, 1, 2, 3, 4, 5, 6], [7]), ([8, 3, 6, 0, 1, 2, 3, 4, 5, 6], [3, 8])])
def dHdr.B19 : List Nat := [0, 0, 0, 4, 1, 17, 49, 127, 255, 511]
theorem dHdr.tab19 : rtab .any (opsOf Tryz.f36 19) = dHdr.T19 := by kernel_rfl
theorem dHdr.bits19 : waitsOk dHdr.T19.2 dHdr.B19 = true := by kernel_rfl
abbrev EvV := StepLaw.Ev HdP
def failC (d : Dc) (c a : Int) : Dc × EvV × Int := ({ d with st := 5, fc := c, fb := a }, .none, c)
def clearV (p : Pend) : Pend := ⟨⟨#[]⟩, ⟨#[]⟩, -1, -1, -1, [], p.glo⟩
def headC (d : Dc) (l : List Int) (a : Int) : Dc × EvV × Int :=
 if (getR l).2 ≠ 0 then failC d (getR l).2 a
 else if kindV (getR l).1.flag = 0 then
  if (numV l 3).2 ≠ 0 then failC d (numV l 3).2 a
  else if (numV l 3).1 > 65536 then failC d 12 a
  else if (numV l 3).1 = 0 then ((extC { d with fl := (getR l).1.flag, from_ := a, left := (numV l 3).1, buf := [] }).1, .none, (extC { d with fl := (getR l).1.flag, from_ := a, left := (numV l 3).1, buf := [] }).2)
  else ({ d with fl := (getR l).1.flag, from_ := a, left := (numV l 3).1, buf := [], st := 1 }, .none, 0)
 else if (itemC l (getR l).1 d.p).2 ≠ 0 then failC d (itemC l (getR l).1 d.p).2 a
 else ({ d with p := clearV d.p, left := (itemC l (getR l).1 d.p).1.f6, st := if (itemC l (getR l).1 d.p).1.f6 > 0 then 2 else 0 }, .item (itemC l (getR l).1 d.p).1, 0)
abbrev evI (h : HdP) (v : Value) : Array Value := #[.int .i64 1, .int .i64 h.f0, .string h.f1, .string h.f2, .int .i64 h.f3, .int .i64 h.f4, .int .i64 h.f5, .int .i64 h.f6, .int .i64 h.f7.f0, .int .i64 h.f7.f1, .string h.f8, .string h.f9, .int .i64 h.f10, .int .i64 h.f11, v, .slice none 0 0]
abbrev evD (v : Value) : Array Value := #[.int .i64 2, .int .i64 0, .string ⟨#[]⟩, .string ⟨#[]⟩, .int .i64 0, .int .i64 0, .int .i64 0, .int .i64 0, .int .i64 0, .int .i64 0, .string ⟨#[]⟩, .string ⟨#[]⟩, .int .i64 0, .int .i64 0, .slice none 0 0, v]
def EvR (w : World) (ev : EvV) (cs : Array Value) : Prop :=
 match ev with
 | .none => cs = evA
 | .item h => ∃ v, cs = evI h v ∧ RP w v h.f12
 | .data l => ∃ v, cs = evD v ∧ RB w v l
 | .fin => cs = evE
theorem evI_one (h : HdP) (v : Value) (hv : v.oneCell' = true) : (evI h v).all (·.oneCell') = true := by
 simp [Value.oneCell'] at hv ⊢
 exact hv
def HeadPost (w0 : World) (v0 : Value) (D : Nat) (r : Dc × EvV × Int) (e : Ending) (w' : World) : Prop := ∃ cs vl' vg' vb', e = .returned (.tuple #[.agg cs, .int .u8 r.2.2]) ∧ EvR w' r.2.1 cs ∧ DT w0 v0 w' D r.1 vl' vg' vb'
section
variable {w0 w : World} {v0 : Value} {D : Nat} {d : Dc} {vl vg vb : Value}
set_option maxRecDepth 100000 in
set_option maxHeartbeats 12800000 in
theorem header_calls (h : DT w0 v0 w D d vl vg vb) (hq : DG w D vb) (hs6 : 6 ≤ w.heap.size) (hp : PR d.p) (A0 : Option Addr) (c0 : Nat) (l0 : List Int) (hr0 : Kd.C (Kd.int .u8) w A0 l0.length l0) (hc0 : l0.length ≤ c0) (hl : l0.length = 512) (hb : byteL l0 = true) (at0 : Int) (ha : 0 ≤ at0) :
  Calls Tryz.prog 36 #[.pointer (some ⟨D, 0, none⟩), .slice A0 l0.length c0, .int .i64 at0] w fun e w' => HeadPost w0 v0 D (headC d l0 at0) e w' := by
 have hHT := h.ds.start.below (below_alloc (Below.refl w.heap.size w) (.cells evA 35))
 have HT := Lib.hid hHT
 have HR := Lib.hid (heap_alloc_new w (.cells evA 35))
 have HS0 := Lib.hid (Nat.le_refl w.heap.size)
 have HD := Lib.hid (show w.heap.size ≠ D from Nat.ne_of_gt h.ds.lt)
 have HNO : Hid (∀ {W : World} {dd : Dc} {a b c : Value} {cs : Array Value}, DS W D dd a b c → W.heap[w.heap.size]? = some (.cells cs 35 (0, 0)) → some w.heap.size ≠ c.ownBlock) := Lib.hid (fun hds hh => DS_own_ne hds hh (by decide))
 have HQ := Lib.hid hq
 have HS6 := Lib.hid hs6
 have HP := Lib.hid hp
 have HH := Lib.hid h
 have HR0 := Lib.hid hr0
 have HC0 := Lib.hid hc0
 have HL0 := Lib.hid hl
 have HB0 := Lib.hid hb
 have HA := Lib.hid ha
 have HB := Lib.hid (below_alloc (Below.refl w.heap.size w) (.cells evA 35))
 have HGET := Lib.hid (fun W (hB : Below w.heap.size w W) => hget_calls A0 c0 l0 W (Kd.C_below hr0 hB) hc0 hl hb)
 obtain ⟨R, hR⟩ : ∃ R, headC d l0 at0 = R := ⟨_, rfl⟩
 rw [hR]
 have HRR := Lib.hid hR
 have hgr : (getR l0).2 = 0 → (getR l0).1 = rawV l0 := fun e => by
  unfold getR at e ⊢
  split
  ·rename_i h1
   rw [if_pos h1] at e
   split
   ·rfl
   ·rename_i h2; rw [if_neg h2] at e; cases e
  ·rename_i h1
   rw [if_neg h1] at e
   exact absurd e h1
 have HGR := Lib.hid hgr
 obtain ⟨r, hr⟩ : ∃ r, (getR l0).1 = r := ⟨_, rfl⟩
 obtain ⟨gc, hgc⟩ : ∃ gc, (getR l0).2 = gc := ⟨_, rfl⟩
 rw [hr, hgc] at HGET HGR
 have HRE := Lib.hid hr
 have HGC := Lib.hid hgc
 clear h hHT hq hs6 hp hr0 hc0 hl hb ha hR hgr hr hgc
 go_enter Tryz.func36, Tryz.ntmps36
 go_wp2_with fail
 refine (HGET.out _ HB.out).mono ?_
 rintro e w2 ⟨rfl, hb2⟩
 replace HR := Lib.hid (blk_below HR.out hb2)
 replace HT := Lib.hid (HT.out.below hb2)
 replace HB := Lib.hid (below_step HB.out hb2)
 clear hb2 HGET
 have hbw := below_alloc (Below.refl w2.heap.size w2) (.cells (rawA r) 119)
 have HX := Lib.hid (heap_alloc_new w2 (.cells (rawA r) 119))
 replace HR := Lib.hid (blk_below HR.out hbw)
 replace HT := Lib.hid (HT.out.below hbw)
 have HB2 := Lib.hid (below_step HB.out hbw)
 clear hbw
 cases hg : (gc == 0) with
 | false =>
  have hne : gc ≠ 0 := beq_eq_false_iff_ne.1 hg
  obtain rfl : R = failC d gc at0 := by rw [← HRR.out]; unfold headC; rw [HGC.out, if_pos hne]
  clear hne
  go_wp2_with fail
  refine (fail_calls HT.out.ds.start _ _).mono ?_
  rintro e w6 ⟨rfl, hT⟩
  replace HR := Lib.hid ((hT.ch.block _ (blk_lt HR.out) HD.out (HNO.out HT.out.ds HR.out)).trans HR.out)
  replace HT := Lib.hid (HT.out.trans hT)
  clear hT
  go_wp2_with ((with_reducible refine wpList_store_blk rfl 35 (.tmp 6) (.tmp 24) rfl w.heap.size evA rfl rfl HR.out rfl (by kernel_rfl) (by kernel_rfl) ?_); intro w9 h1 h2 h3 h4; replace HT := Lib.hid (HT.out.other HR.out rfl HS0.out h2 h3 h4); replace HR := Lib.hid h1; clear h1 h2 h3 h4)
  refine bodyPost_ret (results_blk rfl _ _ w.heap.size 35 evA (0, 0) _ (.int .u8 gc) rfl HR.out rfl Tryz.underlying35 rfl (by kernel_rfl)) rfl ⟨_, _, _, _, rfl, rfl, HH.out.trans HT.out⟩
 | true =>
  obtain rfl : gc = 0 := eq_of_beq hg
  have hrv := HGR.out rfl
  have hfl : 0 ≤ r.flag ∧ r.flag < 256 := by
   rw [hrv]
   show 0 ≤ l0.getD 156 0 ∧ l0.getD 156 0 < 256
   have hlt : 156 < l0.length := by have := HL0.out; omega
   rw [List.getD_eq_getElem?_getD, List.getElem?_eq_getElem hlt]
   exact byteL_iff.1 HB0.out _ (List.getElem_mem hlt)
  have hrs : r.name.size ≤ 512 ∧ r.link.size ≤ 512 ∧ r.pre.size ≤ 512 := by
   rw [hrv]
   have := raw_sz l0 HL0.out
   exact ⟨this.1, this.2.1, this.2.2.1⟩
  have HFL := Lib.hid hfl
  have HRS := Lib.hid hrs
  have hkp := kind_prog r.flag hfl.1 hfl.2 1 (Nat.le_refl _)
  obtain ⟨kn, hkn⟩ : ∃ kn, kindV r.flag = kn := ⟨_, rfl⟩
  rw [hkn] at hkp
  have HKN := Lib.hid hkp
  have HKE := Lib.hid hkn
  clear hrv hfl hrs hkp hkn HGR
  have c1 : (w2.alloc (.cells (rawA r) 119)).cell? ⟨w2.heap.size, 1, none⟩ = some (.int .u8 r.flag) := blk_cell HX.out 1
  go_wp2_with fail
  refine (item_Kind.calls _ _ _ _ HKN.out).mono ?_
  rintro e w4 ⟨rfl, hb4⟩
  replace hb4 := hb4.below
  replace HR := Lib.hid (blk_below HR.out hb4)
  replace HX := Lib.hid (blk_below HX.out hb4)
  replace HT := Lib.hid (HT.out.below hb4)
  replace HB2 := Lib.hid (below_step HB2.out hb4)
  clear hb4 c1 HB
  cases hk : (kn == 0) with
  | true =>
   obtain rfl : kn = 0 := eq_of_beq hk
   have hnum := hnum_calls 3 (by decide) A0 c0 l0 w4 (Kd.C_below HR0.out HB2.out) HC0.out HL0.out HB0.out
   rw [show fieldNo 3 = 7 from rfl] at hnum
   have HNN := Lib.hid (fun (e : (numV l0 3).2 = 0) => numV_nn e (by decide))
   obtain ⟨n, hn⟩ : ∃ n, (numV l0 3).1 = n := ⟨_, rfl⟩
   obtain ⟨nc, hnc⟩ : ∃ nc, (numV l0 3).2 = nc := ⟨_, rfl⟩
   rw [hn, hnc] at hnum
   rw [hn, hnc] at HNN
   have HNUM := Lib.hid hnum
   have HRN : Hid (R = if nc ≠ 0 then failC d nc at0 else if n > 65536 then failC d 12 at0 else if n = 0 then ((extC { d with fl := r.flag, from_ := at0, left := n, buf := [] }).1, .none, (extC { d with fl := r.flag, from_ := at0, left := n, buf := [] }).2) else ({ d with fl := r.flag, from_ := at0, left := n, buf := [], st := 1 }, .none, 0)) := Lib.hid (by
    rw [← HRR.out]
    unfold headC
    rw [HGC.out, HRE.out, if_neg (fun e => e rfl), if_pos HKE.out, hn, hnc])
   clear hnum hn hnc HRR
   go_wp2_with fail
   refine HNUM.out.mono ?_
   rintro e w5 ⟨rfl, hb5⟩
   replace HR := Lib.hid (blk_below HR.out hb5)
   replace HX := Lib.hid (blk_below HX.out hb5)
   replace HT := Lib.hid (HT.out.below hb5)
   clear hb5 HNUM
   cases hnz : (nc == 0) with
   | false =>
    have hne : nc ≠ 0 := beq_eq_false_iff_ne.1 hnz
    obtain rfl : R = failC d nc at0 := by rw [HRN.out, if_pos hne]
    clear hne
    go_wp2_with fail
    refine (fail_calls HT.out.ds.start _ _).mono ?_
    rintro e w6 ⟨rfl, hT⟩
    replace HR := Lib.hid ((hT.ch.block _ (blk_lt HR.out) HD.out (HNO.out HT.out.ds HR.out)).trans HR.out)
    replace HT := Lib.hid (HT.out.trans hT)
    clear hT
    go_wp2_with ((with_reducible refine wpList_store_blk rfl 35 (.tmp 6) (.tmp 42) rfl w.heap.size evA rfl rfl HR.out rfl (by kernel_rfl) (by kernel_rfl) ?_); intro w9 h1 h2 h3 h4; replace HT := Lib.hid (HT.out.other HR.out rfl HS0.out h2 h3 h4); replace HR := Lib.hid h1; clear h1 h2 h3 h4)
    refine bodyPost_ret (results_blk rfl _ _ w.heap.size 35 evA (0, 0) _ (.int .u8 nc) rfl HR.out rfl Tryz.underlying35 rfl (by kernel_rfl)) rfl ⟨_, _, _, _, rfl, rfl, HH.out.trans HT.out⟩
   | true =>
    obtain rfl : nc = 0 := eq_of_beq hnz
    rw [if_neg (fun e => e rfl)] at HRN
    have HN0 := Lib.hid (HNN.out rfl)
    cases hgt : decide (65536 < n) with
    | true =>
     obtain rfl : R = failC d 12 at0 := by rw [HRN.out, if_pos (of_decide_eq_true hgt)]
     go_wp2_with fail
     refine (fail_calls HT.out.ds.start _ _).mono ?_
     rintro e w6 ⟨rfl, hT⟩
     replace HR := Lib.hid ((hT.ch.block _ (blk_lt HR.out) HD.out (HNO.out HT.out.ds HR.out)).trans HR.out)
     replace HT := Lib.hid (HT.out.trans hT)
     clear hT
     go_wp2_with ((with_reducible refine wpList_store_blk rfl 35 (.tmp 6) (.tmp 50) rfl w.heap.size evA rfl rfl HR.out rfl (by kernel_rfl) (by kernel_rfl) ?_); intro w9 h1 h2 h3 h4; replace HT := Lib.hid (HT.out.other HR.out rfl HS0.out h2 h3 h4); replace HR := Lib.hid h1; clear h1 h2 h3 h4)
     refine bodyPost_ret (results_blk rfl _ _ w.heap.size 35 evA (0, 0) _ (.int .u8 12) rfl HR.out rfl Tryz.underlying35 rfl (by kernel_rfl)) rfl ⟨_, _, _, _, rfl, rfl, HH.out.trans HT.out⟩
    | false =>
     rw [if_neg (show ¬ n > 65536 from of_decide_eq_false hgt)] at HRN
     have c1 : w5.cell? ⟨w2.heap.size, 1, none⟩ = some (.int .u8 r.flag) := blk_cell HX.out 1
     cases hn0 : (n == 0) with
     | true =>
      obtain rfl : n = 0 := eq_of_beq hn0
      rw [if_pos rfl] at HRN
      go_wp2_with first
       | ((with_reducible refine wpList_store_fld rfl 5 (.tmp 61) (.tmp 57) rfl D 14 (.int .u8 r.flag) rfl rfl HT.out.ds.blk (by kernel_rfl) (by kernel_rfl) rfl ?_); intro w6 h1 h2 h3 h4; replace HR := Lib.hid ((h2 _ HD.out).trans HR.out); replace HT := Lib.hid (HT.out.same (d' := { d with fl := r.flag }) (by rw [dset_fl] at h1; exact h1) h2 h3 h4); clear h1 h2 h3 h4)
       | ((with_reducible refine wpList_store_fld rfl 2 (.tmp 63) (.tmp 58) rfl D 15 (.int .i64 at0) rfl rfl HT.out.ds.blk (by kernel_rfl) (by kernel_rfl) rfl ?_); intro w7 h1 h2 h3 h4; replace HR := Lib.hid ((h2 _ HD.out).trans HR.out); replace HT := Lib.hid (HT.out.same (d' := { d with fl := r.flag, from_ := at0 }) (by rw [dset_from] at h1; exact h1) h2 h3 h4); clear h1 h2 h3 h4)
       | ((with_reducible refine wpList_store_fld rfl 2 (.tmp 65) (.tmp 59) rfl D 17 (.int .i64 0) rfl rfl HT.out.ds.blk (by kernel_rfl) (by kernel_rfl) rfl ?_); intro w8 h1 h2 h3 h4; replace HR := Lib.hid ((h2 _ HD.out).trans HR.out); replace HT := Lib.hid (HT.out.same (d' := { d with fl := r.flag, from_ := at0, left := 0 }) (by rw [dset_left] at h1; exact h1) h2 h3 h4); clear h1 h2 h3 h4)
       | ((with_reducible refine wpList_store_fld rfl 22 (.tmp 67) (.const (.slice none 0 0)) rfl D 16 (.slice none 0 0) rfl rfl HT.out.ds.blk (by kernel_rfl) (by kernel_rfl) rfl ?_); intro w9 h1 h2 h3 h4; replace HR := Lib.hid ((h2 _ HD.out).trans HR.out); replace HT := Lib.hid (HT.out.set (d' := { d with fl := r.flag, from_ := at0, left := 0, buf := [] }) (by rw [dset_buf0] at h1; exact h1) h2 h3 h4 HT.out.ds.hl HT.out.ds.hg HT.out.nil_b (.inr rfl)); clear h1 h2 h3 h4)
      refine (extend_calls HT.out.ds.start (DG.chg HQ.out HS6.out HT.out.ch) (Nat.le_trans HS6.out HT.out.ch.size) rfl (by have := HP.out.len; show d.p.glo.length + 0 < _; omega) HA.out).mono ?_
      rintro e w12 ⟨vl2, vg2, vb2, rfl, hT⟩
      replace HR := Lib.hid ((hT.ch.block _ (blk_lt HR.out) HD.out (by simp [Value.ownBlock])).trans HR.out)
      replace HT := Lib.hid (HT.out.trans hT)
      clear hT
      obtain ⟨E1, hE1⟩ : ∃ E1, extC { d with fl := r.flag, from_ := at0, left := 0, buf := [] } = E1 := ⟨_, rfl⟩
      rw [hE1] at HT HRN ⊢
      clear hE1
      obtain rfl := HRN.out
      go_wp2_with ((with_reducible refine wpList_store_blk rfl 35 (.tmp 6) (.tmp 72) rfl w.heap.size evA rfl rfl HR.out rfl (by kernel_rfl) (by kernel_rfl) ?_); intro w9 h1 h2 h3 h4; replace HT := Lib.hid (HT.out.other HR.out rfl HS0.out h2 h3 h4); replace HR := Lib.hid h1; clear h1 h2 h3 h4)
      refine bodyPost_ret (results_blk rfl _ _ w.heap.size 35 evA (0, 0) _ (.int .u8 E1.2) rfl HR.out rfl Tryz.underlying35 rfl (by kernel_rfl)) rfl ⟨_, _, _, _, rfl, rfl, HH.out.trans HT.out⟩
     | false =>
      have hne : ¬ n = 0 := beq_eq_false_iff_ne.1 hn0
      rw [if_neg hne] at HRN
      clear hne
      obtain rfl := HRN.out
      go_wp2_with first
       | ((with_reducible refine wpList_store_fld rfl 5 (.tmp 61) (.tmp 57) rfl D 14 (.int .u8 r.flag) rfl rfl HT.out.ds.blk (by kernel_rfl) (by kernel_rfl) rfl ?_); intro w6 h1 h2 h3 h4; replace HR := Lib.hid ((h2 _ HD.out).trans HR.out); replace HT := Lib.hid (HT.out.same (d' := { d with fl := r.flag }) (by rw [dset_fl] at h1; exact h1) h2 h3 h4); clear h1 h2 h3 h4)
       | ((with_reducible refine wpList_store_fld rfl 2 (.tmp 63) (.tmp 58) rfl D 15 (.int .i64 at0) rfl rfl HT.out.ds.blk (by kernel_rfl) (by kernel_rfl) rfl ?_); intro w7 h1 h2 h3 h4; replace HR := Lib.hid ((h2 _ HD.out).trans HR.out); replace HT := Lib.hid (HT.out.same (d' := { d with fl := r.flag, from_ := at0 }) (by rw [dset_from] at h1; exact h1) h2 h3 h4); clear h1 h2 h3 h4)
       | ((with_reducible refine wpList_store_fld rfl 2 (.tmp 65) (.tmp 59) rfl D 17 (.int .i64 n) rfl rfl HT.out.ds.blk (by kernel_rfl) (by kernel_rfl) rfl ?_); intro w8 h1 h2 h3 h4; replace HR := Lib.hid ((h2 _ HD.out).trans HR.out); replace HT := Lib.hid (HT.out.same (d' := { d with fl := r.flag, from_ := at0, left := n }) (by rw [dset_left] at h1; exact h1) h2 h3 h4); clear h1 h2 h3 h4)
       | ((with_reducible refine wpList_store_fld rfl 22 (.tmp 67) (.const (.slice none 0 0)) rfl D 16 (.slice none 0 0) rfl rfl HT.out.ds.blk (by kernel_rfl) (by kernel_rfl) rfl ?_); intro w9 h1 h2 h3 h4; replace HR := Lib.hid ((h2 _ HD.out).trans HR.out); replace HT := Lib.hid (HT.out.set (d' := { d with fl := r.flag, from_ := at0, left := n, buf := [] }) (by rw [dset_buf0] at h1; exact h1) h2 h3 h4 HT.out.ds.hl HT.out.ds.hg HT.out.nil_b (.inr rfl)); clear h1 h2 h3 h4)
       | ((with_reducible refine wpList_store_fld rfl 3 (.tmp 76) (.const (.int .i64 1)) rfl D 0 (.int .i64 1) rfl rfl HT.out.ds.blk (by kernel_rfl) (by kernel_rfl) rfl ?_); intro w10 h1 h2 h3 h4; replace HR := Lib.hid ((h2 _ HD.out).trans HR.out); replace HT := Lib.hid (HT.out.same (d' := { d with fl := r.flag, from_ := at0, left := n, buf := [], st := 1 }) (by rw [dset_st] at h1; exact h1) h2 h3 h4); clear h1 h2 h3 h4)
       | ((with_reducible refine wpList_store_blk rfl 35 (.tmp 6) (.tmp 77) rfl w.heap.size evA rfl rfl HR.out rfl (by kernel_rfl) (by kernel_rfl) ?_); intro w9 h1 h2 h3 h4; replace HT := Lib.hid (HT.out.other HR.out rfl HS0.out h2 h3 h4); replace HR := Lib.hid h1; clear h1 h2 h3 h4)
      refine bodyPost_ret (results_blk rfl _ _ w.heap.size 35 evA (0, 0) _ (.int .u8 0) rfl HR.out rfl Tryz.underlying35 rfl (by kernel_rfl)) rfl ⟨_, _, _, _, rfl, rfl, HH.out.trans HT.out⟩
  | false =>
   have hk0 : ¬ kn = 0 := beq_eq_false_iff_ne.1 hk
   have HRN : Hid (R = if (itemC l0 r d.p).2 ≠ 0 then failC d (itemC l0 r d.p).2 at0 else ({ d with p := clearV d.p, left := (itemC l0 r d.p).1.f6, st := if (itemC l0 r d.p).1.f6 > 0 then 2 else 0 }, .item (itemC l0 r d.p).1, 0)) := Lib.hid (by
    rw [← HRR.out]
    unfold headC
    rw [HGC.out, HRE.out, if_neg (fun e => e rfl), HKE.out, if_neg hk0])
   have HIT := Lib.hid (item_calls HT.out (HQ.out.glob.below HB2.out) HP.out A0 c0 l0 (Kd.C_below HR0.out HB2.out) HC0.out HL0.out HB0.out r HFL.out HRS.out)
   obtain ⟨I, hI⟩ : ∃ I, itemC l0 r d.p = I := ⟨_, rfl⟩
   rw [hI] at HIT HRN
   clear hk0 hI HRR
   go_wp2_with ((with_reducible refine wpList_load_blk rfl 119 (.tmp 8) rfl w2.heap.size rfl HX.out _ Tryz.underlying119 rfl (by kernel_rfl) ?_))
   refine HIT.out.mono ?_
   rintro e w5 ⟨v9, rfl, hr9, hb5⟩
   obtain ⟨Ax, cx, rfl, _, _⟩ := Kd.R_reads hr9
   replace HR := Lib.hid (blk_below HR.out hb5)
   replace HT := Lib.hid (HT.out.below hb5)
   have hone : (Value.slice Ax I.1.f12.length cx).oneCell' = true := rfl
   have hbw := below_alloc (Below.refl w5.heap.size w5) (.cells (hdA I.1 (.slice Ax I.1.f12.length cx)) 33)
   have HX2 := Lib.hid (heap_alloc_new w5 (.cells (hdA I.1 (.slice Ax I.1.f12.length cx)) 33))
   have HV9 := Lib.hid (show RP _ (.slice Ax I.1.f12.length cx) I.1.f12 from Kd.R_below (Kd.R_mono (Kd.R_lower hr9 (Nat.zero_le _)) (fun _ _ => trivial)) hbw)
   have HD2 := Lib.hid (show w5.heap.size ≠ D from Nat.ne_of_gt HT.out.ds.lt)
   replace HR := Lib.hid (blk_below HR.out hbw)
   replace HT := Lib.hid (HT.out.below hbw)
   have HONE := Lib.hid hone
   clear hr9 hb5 hbw hone HIT
   cases hic : (I.2 == 0) with
   | false =>
    have hne : I.2 ≠ 0 := beq_eq_false_iff_ne.1 hic
    obtain ⟨ic, hicE⟩ : ∃ ic, I.2 = ic := ⟨_, rfl⟩
    obtain rfl : R = failC d ic at0 := by rw [HRN.out, if_pos hne, hicE]
    rw [hicE] at hic ⊢
    clear hne
    go_wp2_with fail
    refine (fail_calls HT.out.ds.start _ _).mono ?_
    rintro e w6 ⟨rfl, hT⟩
    replace HR := Lib.hid ((hT.ch.block _ (blk_lt HR.out) HD.out (HNO.out HT.out.ds HR.out)).trans HR.out)
    replace HT := Lib.hid (HT.out.trans hT)
    clear hT
    go_wp2_with ((with_reducible refine wpList_store_blk rfl 35 (.tmp 6) (.tmp 91) rfl w.heap.size evA rfl rfl HR.out rfl (by kernel_rfl) (by kernel_rfl) ?_); intro w9 h1 h2 h3 h4; replace HT := Lib.hid (HT.out.other HR.out rfl HS0.out h2 h3 h4); replace HR := Lib.hid h1; clear h1 h2 h3 h4)
    refine bodyPost_ret (results_blk rfl _ _ w.heap.size 35 evA (0, 0) _ (.int .u8 ic) rfl HR.out rfl Tryz.underlying35 rfl (by kernel_rfl)) rfl ⟨_, _, _, _, rfl, rfl, HH.out.trans HT.out⟩
   | true =>
    have hie : I.2 = 0 := eq_of_beq hic
    rw [if_neg (fun e => e hie)] at HRN
    rw [hie]
    clear hic hie
    have HNM := Lib.hid (dset_name d vl vg vb ⟨#[]⟩ (-1) 0 false rfl rfl)
    have HLK := Lib.hid (dset_link { d with p := { d.p with name := ⟨#[]⟩, aN := -1 } } vl vg vb ⟨#[]⟩ (-1) 0 false rfl rfl)
    go_wp2_with first
     | ((with_reducible refine wpList_store_part rfl 71 (.tmp 100) (.tmp 97) rfl D 4 (longA ⟨#[]⟩ 0 false) rfl rfl HT.out.ds.blk (by kernel_rfl) (by kernel_rfl) (by kernel_rfl) _ HNM.out ?_); intro w6 h1 h2 h3 h4; replace HR := Lib.hid ((h2 _ HD.out).trans HR.out); replace HX2 := Lib.hid ((h2 _ HD2.out).trans HX2.out); replace HV9 := Lib.hid (RP_past HT.out HV9.out h2); replace HT := Lib.hid (HT.out.same (d' := { d with p := { d.p with name := ⟨#[]⟩, aN := -1 } }) h1 h2 h3 h4); clear h1 h2 h3 h4)
     | ((with_reducible refine wpList_store_part rfl 71 (.tmp 102) (.tmp 98) rfl D 7 (longA ⟨#[]⟩ 0 false) rfl rfl HT.out.ds.blk (by kernel_rfl) (by kernel_rfl) (by kernel_rfl) _ HLK.out ?_); intro w7 h1 h2 h3 h4; replace HR := Lib.hid ((h2 _ HD.out).trans HR.out); replace HX2 := Lib.hid ((h2 _ HD2.out).trans HX2.out); replace HV9 := Lib.hid (RP_past HT.out HV9.out h2); replace HT := Lib.hid (HT.out.same (d' := { d with p := { d.p with name := ⟨#[]⟩, aN := -1, link := ⟨#[]⟩, aL := -1 } }) h1 h2 h3 h4); clear h1 h2 h3 h4)
     | ((with_reducible refine wpList_store_fld rfl 31 (.tmp 104) (.const (.slice none 0 0)) rfl D 10 (.slice none 0 0) rfl rfl HT.out.ds.blk (by kernel_rfl) (by kernel_rfl) rfl ?_); intro w8 h1 h2 h3 h4; replace HR := Lib.hid ((h2 _ HD.out).trans HR.out); replace HX2 := Lib.hid ((h2 _ HD2.out).trans HX2.out); replace HV9 := Lib.hid (RP_past HT.out HV9.out h2); replace HT := Lib.hid (HT.out.set (d' := { d with p := { d.p with name := ⟨#[]⟩, aN := -1, link := ⟨#[]⟩, aL := -1, loc := [] } }) (vl' := .slice none 0 0) (vg' := vg) (vb' := vb) h1 h2 h3 h4 HT.out.nil_l HT.out.ds.hg HT.out.ds.hb (.inl rfl)); clear h1 h2 h3 h4)
     | ((with_reducible refine wpList_store_fld rfl 4 (.tmp 106) (.const (.bool false)) rfl D 12 (.bool false) rfl rfl HT.out.ds.blk (by kernel_rfl) (by kernel_rfl) rfl ?_); intro w9 h1 h2 h3 h4; replace HR := Lib.hid ((h2 _ HD.out).trans HR.out); replace HX2 := Lib.hid ((h2 _ HD2.out).trans HX2.out); replace HV9 := Lib.hid (RP_past HT.out HV9.out h2); replace HT := Lib.hid (HT.out.same (d' := { d with p := clearV d.p }) (by rw [dset_aX _ _ _ _ (-1) false rfl] at h1; exact h1) h2 h3 h4); clear h1 h2 h3 h4)
    refine start_ (n := 10) (S := fun w' => w'.cell? ⟨w5.heap.size, 6, none⟩ = some (.int .i64 I.1.f6)) (ds := []) #[false, false, false, false, false, false, false, false, false, false] (by kernel_rfl) rfl rfl (blk_cell (blk_drew HX2.out) 6) (fun hHeld => ?_); refine with_tabW dHdr.tab19 dHdr.bits19 (fun HT_ HW_ => ?_)
    replace HR := Lib.hid (blk_drew HR.out)
    replace HX2 := Lib.hid (blk_drew HX2.out)
    replace HV9 := Lib.hid (Kd.R_drew HV9.out)
    replace HT := Lib.hid (HT.out.below ((Below.refl _ _).drew))
    generalize World.drew _ = w10 at HR HX2 HV9 HT hHeld ⊢
    refine Zp 0 107 (Zb 10 1) HT_ ?_
    refine Zp 1 108 (Zb 10 3) HT_ ?_
    refine Zp 2 109 (Zb 10 7) HT_ ?_
    refine Zp 4 111 (Zb 10 23) HT_ ?_
    refine Zp 5 112 (Zb 10 55) HT_ ?_
    refine Zt 3 110 (Zb 10 63) HT_ HW_ hHeld ?_
    refine one_ (i := 6) (N := none) (Zb 10 127) rfl rfl (one_of HT_.out (by kernel_rfl)) (by decide) (fun K hK => ?_)
    refine st_store_fld 3 (.tmp 112) (.const (.int .i64 0)) D 0 (.int .i64 0) HT.out.ds.blk ?_
    intro w11 h1 h2 h3 h4
    replace HR := Lib.hid ((h2 _ HD.out).trans HR.out)
    replace HX2 := Lib.hid ((h2 _ HD2.out).trans HX2.out)
    replace HV9 := Lib.hid (RP_past HT.out HV9.out h2)
    replace HT := Lib.hid (HT.out.same (d' := { d with p := clearV d.p, st := 0 }) (by rw [dset_st] at h1; exact h1) h2 h3 h4)
    clear h1 h2 h3 h4
    refine hK.out _ _ (blk_cell HX2.out 6) (fun hHeld => ?_)
    clear hK K
    refine Zp 7 113 (Zb 10 255) HT_ ?_
    refine Zp 8 114 (Zb 10 511) HT_ ?_
    refine one_ (i := 9) (N := none) (Zb 10 1023) rfl rfl (one_of HT_.out (by kernel_rfl)) (by decide) (fun K hK => ?_)
    refine st_store_fld 2 (.tmp 114) (.tmp 110) D 17 (.int .i64 I.1.f6) HT.out.ds.blk ?_
    intro w12 h1 h2 h3 h4
    replace HR := Lib.hid ((h2 _ HD.out).trans HR.out)
    replace HX2 := Lib.hid ((h2 _ HD2.out).trans HX2.out)
    replace HV9 := Lib.hid (RP_past HT.out HV9.out h2)
    replace HT := Lib.hid (HT.out.same (d' := { d with p := clearV d.p, st := 0, left := I.1.f6 }) (by rw [dset_left] at h1; exact h1) h2 h3 h4)
    clear h1 h2 h3 h4
    refine hK.out _ _ (blk_cell HX2.out 6) (fun hHeld => ?_)
    clear hK K
    refine Zq HT_ ?_
    clear HT_ HW_
    have c6 : w12.cell? ⟨w5.heap.size, 6, none⟩ = some (.int .i64 I.1.f6) := blk_cell HX2.out 6
    cases hsz : decide (0 < I.1.f6) with
    | true =>
     obtain rfl : R = ({ d with p := clearV d.p, left := I.1.f6, st := 2 }, .item I.1, 0) := by rw [HRN.out, if_pos (of_decide_eq_true hsz)]
     go_wp2_with first
      | ((with_reducible refine wpList_store_fld rfl 3 (.tmp 120) (.const (.int .i64 2)) rfl D 0 (.int .i64 2) rfl rfl HT.out.ds.blk (by kernel_rfl) (by kernel_rfl) rfl ?_); intro w13 h1 h2 h3 h4; replace HR := Lib.hid ((h2 _ HD.out).trans HR.out); replace HX2 := Lib.hid ((h2 _ HD2.out).trans HX2.out); replace HV9 := Lib.hid (RP_past HT.out HV9.out h2); replace HT := Lib.hid (HT.out.same (d' := { d with p := clearV d.p, left := I.1.f6, st := 2 }) (by rw [dset_st] at h1; exact h1) h2 h3 h4); clear h1 h2 h3 h4)
      | ((with_reducible refine wpList_load_blk rfl 33 (.tmp 12) rfl w5.heap.size rfl HX2.out _ Tryz.underlying33 rfl (by kernel_rfl) ?_))
      | ((with_reducible refine wpList_store_blk rfl 35 (.tmp 6) (.tmp 122) rfl w.heap.size (evI I.1 (.slice Ax I.1.f12.length cx)) rfl rfl HR.out rfl (by kernel_rfl) (evI_one I.1 (.slice Ax I.1.f12.length cx) HONE.out) ?_); intro w14 h1 h2 h3 h4; replace HV9 := Lib.hid (R_past HV9.out HR.out (by decide) h2); replace HT := Lib.hid (HT.out.other HR.out rfl HS0.out h2 h3 h4); replace HR := Lib.hid h1; clear h1 h2 h3 h4)
     refine bodyPost_ret (results_blk rfl _ _ w.heap.size 35 (evI I.1 (.slice Ax I.1.f12.length cx)) (0, 0) _ (.int .u8 0) rfl HR.out rfl Tryz.underlying35 rfl (by kernel_rfl)) rfl ⟨_, _, _, _, rfl, ⟨_, rfl, HV9.out⟩, HH.out.trans HT.out⟩
    | false =>
     obtain rfl : R = ({ d with p := clearV d.p, left := I.1.f6, st := 0 }, .item I.1, 0) := by rw [HRN.out, if_neg (of_decide_eq_false hsz)]
     go_wp2_with first
      | ((with_reducible refine wpList_load_blk rfl 33 (.tmp 12) rfl w5.heap.size rfl HX2.out _ Tryz.underlying33 rfl (by kernel_rfl) ?_))
      | ((with_reducible refine wpList_store_blk rfl 35 (.tmp 6) (.tmp 122) rfl w.heap.size (evI I.1 (.slice Ax I.1.f12.length cx)) rfl rfl HR.out rfl (by kernel_rfl) (evI_one I.1 (.slice Ax I.1.f12.length cx) HONE.out) ?_); intro w14 h1 h2 h3 h4; replace HV9 := Lib.hid (R_past HV9.out HR.out (by decide) h2); replace HT := Lib.hid (HT.out.other HR.out rfl HS0.out h2 h3 h4); replace HR := Lib.hid h1; clear h1 h2 h3 h4)
     refine bodyPost_ret (results_blk rfl _ _ w.heap.size 35 (evI I.1 (.slice Ax I.1.f12.length cx)) (0, 0) _ (.int .u8 0) rfl HR.out rfl Tryz.underlying35 rfl (by kernel_rfl)) rfl ⟨_, _, _, _, rfl, ⟨_, rfl, HV9.out⟩, HH.out.trans HT.out⟩
end
end Go.Proofs.YtddhkfdfhbpblaaGreatDoor.P
namespace Go.Proofs.YtddhkfdfhbpblaaGreatDoor.P
open Go.RowKit Go.Shelf Go.Proofs.YtddhkfdfhbpblaaGreatDoorW.PrintWords Go.Proofs.YtddhkfdfhbpblaaGreatDoorW.PrintLast Go.Proofs.YtddhkfdfhbpblaaGreatDoorW.PrintMore
set_option linter.unusedVariables false
attribute [local go_sem] Oper.semAt_some
set_option maxRecDepth 100000 in
set_option maxHeartbeats 3200000 in
theorem clone_bytes (A0 : Option Addr) (c0 : Nat) (l0 : List Int) (w : World) (hr0 : Kd.C (Kd.int .u8) w A0 l0.length l0) (hl : l0.length < 4398046511104) :
  Calls Tryz.prog 32 #[.slice A0 l0.length c0] w fun e w' => ∃ v0_ : Value, e = .returned (v0_) ∧ Kd.R (Kd.int .u8) 5 w' w.heap.size (fun _ => True) v0_ l0 ∧ Below w.heap.size w w' := by
 have hu := Tryz.underlying22
 have hu2 := Tryz.underlying5
 have q24 : ∀ (w : World) (a : Option Addr) (n c n' c' : Nat), (binOp .eql 22 (.slice a n c) (.slice none n' c')).run Tryz.prog w = .ok (.bool a.isNone) w := fun w a n c n' c' => Lib.run_eql_slice_nil w _ _ a n c n' c' hu
 have HB := Aside0.mk (Below.refl w.heap.size w)
 have HR0 := Aside0.mk hr0
 have HL := Aside0.mk hl
 go_enter Tryz.func32, Tryz.ntmps32
 rcases A0 with _ | ad
 ·have h0 : l0 = [] := by
   cases l0 with
   | nil => rfl
   | cons x t =>
    obtain ⟨ad, h, _⟩ := Kd.at_int hr0 0 (Int.le_refl _) (by simp)
    cases h
  subst h0
  clear hr0 hl
  go_wp2
  go_ret
  exact ⟨_, rfl, Kd.R_nil _ _ _ _ _, HB.out⟩
 ·clear hr0 hl
  obtain ⟨y, hy⟩ : ∃ y : List Int, y = [] ++ l0 := ⟨_, rfl⟩
  have Ny := Aside0.mk hy
  clear hy
  go_wp2_with (first
   | ((with_reducible refine gate_dst (N := 5) rfl ?_); refine Kd.R_lit (Kd.int .u8) _ 5 ?hg (N := 5) ?hd (xs := ([] : List Int)) (inner := []) (ok := fun _ => True) (okp := fun _ => True) ?hr ?hp (fun _ hk => hk) trivial (Below.refl _ _) (Nat.le_refl _) (by simp) ?_; (case hd => rfl); (case hg => rfl); (case hr => first | (go_simp; done) | (go_simp; rfl)); (case hp => exact (Reps.none _ _)); intro v241 w5 ho6 hb hg_ hnew_; clear hg_ hnew_; (try simp only [Int.reduceToNat] at ho6); have HO242 := Aside0.mk (Kd.R_lower ho6 (below_size HB.out)); have HB := Aside0.mk (below_step HB.out hb); clear hb ho6)
   | ((with_reducible refine gate_builtin (b := .append) (xs := #[.tmp 5, .tmp 6]) rfl ?_); at_builtin; refine Kd.R_append_rows (Kd.int .u8) (w0 := w) w.heap.size rfl (.tmp 5) (.tmp 6) 22 5 (.int .u8 0) 1 rfl Tryz.underlying22 info5 rfl (by decide) (by omega) v241 [] l0 _ _ _ (fun _ => True) (fun _ => False) rfl rfl ?aO ?aR (fun _ _ h => h) (fun _ h => h.elim) ?aF ?aB ?aS ?aL ?_; (case aR => exact (Kd.C_below HR0.out HB.out)); (case aB => exact HB.out); (case aF => exact (fun _ _ => trivial)); (case aO => exact HO242.out); (case aS => exact (below_size HB.out)); (case aL => have := HL.out; simp only [List.length_nil]; omega); intro v244 w7 ho hb hg hat; rw [List.nil_append] at ho; have HB2 := Aside0.mk (hb); have HO245 := Aside0.mk (ho); clear ho hb hg hat))
  go_ret
  exact ⟨_, rfl, HO245.out, HB2.out⟩
end Go.Proofs.YtddhkfdfhbpblaaGreatDoor.P
