/- glob's compiler: its small methods. What lies in its block, and the row of pieces that it has made. -/
import Derived.Test.YtkgldphpkglcmaaRows
import Derived.WalkKit
import Derived.WalkSpells
import Derived.WalkLawsBesides
import Derived.Lib.Hide
import Derived.Deep.AppendLies
import Derived.Deep.RegionHeld3
import Derived.Test.YtkgldphpkglcmaaWMore
import Derived.Test.YtkgldphpkglcmaaPx5
import Derived.Test.YtkgldphpkglcmaaPx11
namespace Go.Proofs.Ytkgldphpkglcmaa.Gl
open Go.RowKit Go.Proofs.YtkgldphpkglcmaaW.PrintWords Go.Proofs.YtkgldphpkglcmaaW.PrintLast Go.Proofs.YtkgldphpkglcmaaW.PrintMore
/-- a text of these bytes. -/
def tx (l : List UInt8) : ByteArray := ⟨l.toArray⟩
theorem tx_size (l : List UInt8) : (tx l).size = l.length := by unfold tx; exact List.size_toArray
theorem tx_list (l : List UInt8) : (tx l).toList = l := by rw [ByteArray.toList_eq]; rfl
theorem tx_of (s : ByteArray) : tx s.data.toList = s := rfl
/-- the compiler's block. -/
def Cm (w : World) (g : Nat) (l : List UInt8) (v : Value) (b : Bool) : Prop := w.heap[g]? = some (.cells #[.string (tx l), v, .bool b] 49 (0, 0))
section
variable {w : World} {g : Nat} {l : List UInt8} {v : Value} {b : Bool}
theorem Cm.cell (h : Cm w g l v b) (i : Nat) : w.cell? ⟨g, i, none⟩ = #[Value.string (tx l), v, .bool b][i]? := cell_of_row w g i _ 49 (0, 0) h
theorem Cm.c0 (h : Cm w g l v b) : w.cell? ⟨g, 0, none⟩ = some (.string (tx l)) := h.cell 0
theorem Cm.c1 (h : Cm w g l v b) : w.cell? ⟨g, 1, none⟩ = some v := h.cell 1
theorem Cm.c2 (h : Cm w g l v b) : w.cell? ⟨g, 2, none⟩ = some (.bool b) := h.cell 2
theorem Cm.fr (h : Cm w g l v b) (i : Nat) : w.frozen? ⟨g, i, none⟩ = false := frozen_of_row w g i _ 49 h
theorem Cm.s0 (h : Cm w g l v b) (m : List UInt8) : Cm (w.setCell ⟨g, 0, none⟩ (.string (tx m))) g m v b := heap_setCell_same w g 0 _ 49 _ h
theorem Cm.s1 (h : Cm w g l v b) (u : Value) : Cm (w.setCell ⟨g, 1, none⟩ u) g l u b := heap_setCell_same w g 1 _ 49 _ h
theorem Cm.s2 (h : Cm w g l v b) (c : Bool) : Cm (w.setCell ⟨g, 2, none⟩ (.bool c)) g l v c := heap_setCell_same w g 2 _ 49 _ h
end
/-- a piece: its kind, and which bytes are in its set (256 of them). -/
abbrev Pc := Int × List Bool
def pcs (x : Pc) : List Value := .int .i64 x.1 :: x.2.map Value.bool
def rowOf (ps : List Pc) : List Value := (ps.map pcs).flatten
/-- the compiler at work: what is left of the pattern, the pieces made, whether it is bad; below B all is as it was. -/
structure CS (w0 w : World) (B g : Nat) (l : List UInt8) (ps : List Pc) (b : Bool) (v : Value) : Prop where
  blk : Cm w g l v b
  hg : B ≤ g
  own : w.ownsRow B 53 257 v ps.length (rowOf ps)
  bel : Below B w0 w
  len : ∀ x ∈ ps, x.2.length = 256
theorem CS.apart {w0 w : World} {B g : Nat} {l : List UInt8} {ps : List Pc} {b : Bool} {v : Value} (h : CS w0 w B g l ps b v) : v.ownBlock ≠ some g := by
  intro e
  obtain ⟨cells, hc⟩ := own_typed h.own g e
  have hb := h.blk
  unfold Cm at hb
  rw [hb] at hc
  injection hc with hc
  injection hc with _ ht
  exact absurd ht (by decide)
theorem CS.set {w0 w : World} {B g : Nat} {l m : List UInt8} {ps : List Pc} {b c : Bool} {v : Value} {i : Nat} {u : Value} (h : CS w0 w B g l ps b v) (hb : Cm (w.setCell ⟨g, i, none⟩ u) g m v c) : CS w0 (w.setCell ⟨g, i, none⟩ u) B g m ps c v :=
  ⟨hb, h.hg, own_move h.own (fun k hk => Below.heap_setCell w _ u k (by rintro rfl; exact h.apart hk)), h.bel.setCell h.hg u, h.len⟩
theorem only_set (w : World) (g i : Nat) (u : Value) : w.grownBy (w.setCell ⟨g, i, none⟩ u) (some g) :=
  ⟨rfl, rfl, rfl, by simp [World.setCell], fun k _ hk => Below.heap_setCell w _ u k (fun e => hk (by rw [e]))⟩
def tkC (l : List UInt8) : UInt8 := l.headD 0
/-- take a byte. -/
theorem take_any {w0 w : World} {B g : Nat} {l : List UInt8} {ps : List Pc} {b : Bool} {v : Value} (h : CS w0 w B g l ps b v) :
    Calls Try.prog 21 #[.pointer (some ⟨g, 0, none⟩)] w fun e w' => e = .returned (.int .u8 ((tkC l).toNat : Int)) ∧ CS w0 w' B g l.tail ps (b || l.isEmpty) v ∧ w.grownBy w' (some g) := by
  have hc0 := h.blk.c0
  have hf0 := h.blk.fr 0
  have hf2 := h.blk.fr 2
  cases l with
  | nil =>
    have hc2 := h.blk.c2
    have hn : ((tx []).toList == ([] : List UInt8)) = true := by rw [tx_list]; rfl
    have fin := h.set (i := 2) (h.blk.s2 true)
    have Fin := Lib.hid fin
    clear fin h
    go_enter Try.func21, Try.ntmps21
    go_wp2
    go_ret
    exact ⟨rfl, by simpa using Fin.out, only_set w g _ _⟩
  | cons c t =>
    have hx : ∀ hh : 0 < (tx (c :: t)).size, (((tx (c :: t))[0]'hh).toNat : Int) = (c.toNat : Int) := fun _ => rfl
    have hz : 0 < (tx (c :: t)).size := by rw [tx_size]; simp
    have he : (tx (c :: t)).extract 1 (tx (c :: t)).size = tx t := by rw [tx_size]; unfold tx; simp [ByteArray.extract, ByteArray.copySlice]
    have hn : ((tx (c :: t)).toList == ([] : List UInt8)) = false := by rw [tx_list]; rfl
    have fin := h.set (i := 0) (h.blk.s0 t)
    have Fin := Lib.hid fin
    clear fin h
    go_enter Try.func21, Try.ntmps21
    go_wp2
    go_ret
    exact ⟨rfl, by simpa using Fin.out, only_set w g _ _⟩
def memC (l : List UInt8) : UInt8 := if l.headD 0 = 92 then tkC l.tail else tkC l
def memR (l : List UInt8) : List UInt8 := if l.headD 0 = 92 then l.tail.tail else l.tail
def memB (l : List UInt8) : Bool := l.isEmpty || (if l.headD 0 = 92 then l.tail.isEmpty else l.headD 0 == 93 || l.headD 0 == 45)
theorem u8_eq (c : UInt8) (n : Nat) (hn : n < 256) : ((c.toNat : Int) == (n : Int)) = (c == UInt8.ofNat n) := by
  rw [Bool.eq_iff_iff, beq_iff_eq, beq_iff_eq]
  constructor
  · intro h
    apply UInt8.toNat.inj
    show c.toNat = (UInt8.ofNat n).toNat
    rw [UInt8.toNat_ofNat_of_lt' (by simpa using hn)]
    omega
  · rintro rfl
    rw [UInt8.toNat_ofNat_of_lt' (by simpa using hn)]
/-- a byte of a set. -/
theorem member_any {w0 w : World} {B g : Nat} {l : List UInt8} {ps : List Pc} {b : Bool} {v : Value} (h : CS w0 w B g l ps b v) :
    Calls Try.prog 31 #[.pointer (some ⟨g, 0, none⟩)] w fun e w' => e = .returned (.int .u8 ((memC l).toNat : Int)) ∧ CS w0 w' B g (memR l) ps (b || memB l) v ∧ w.grownBy w' (some g) := by
  have T := Lib.hid (take_any h)
  clear h
  have q92 := u8_eq (tkC l) 92 (by omega)
  have q93 := u8_eq (tkC l) 93 (by omega)
  have q45 := u8_eq (tkC l) 45 (by omega)
  have hh : l.headD 0 = tkC l := rfl
  by_cases h92 : tkC l = 92
  · have e92 : ((tkC l).toNat : Int) == (92 : Int) := by rw [h92]; rfl
    have F : memC l = tkC l.tail ∧ memR l = l.tail.tail ∧ (∀ b, (b || memB l) = ((b || l.isEmpty) || l.tail.isEmpty)) := by
      unfold memC memR memB
      rw [hh, if_pos h92, if_pos h92, if_pos h92]
      exact ⟨rfl, rfl, fun b => by rw [Bool.or_assoc]⟩
    have HF := Lib.hid F
    clear F h92 q92 q93 q45 hh
    go_enter Try.func31, Try.ntmps31
    go_wp2_with fail
    refine T.out.mono ?_
    rintro e w1 ⟨rfl, h1, k1⟩
    go_wp2_with fail
    refine (take_any h1).mono ?_
    rintro e w2 ⟨rfl, h2, k2⟩
    go_wp2
    go_ret
    rw [HF.out.1, HF.out.2.1, HF.out.2.2]
    exact ⟨rfl, h2, k1.trans k2⟩
  · have e92 : (((tkC l).toNat : Int) == (92 : Int)) = false := by
      rw [show (92 : Int) = ((92 : Nat) : Int) from rfl, q92]
      exact beq_eq_false_iff_ne.2 h92
    have F : memC l = tkC l ∧ memR l = l.tail ∧ (∀ b, (b || memB l) = ((b || l.isEmpty) || (tkC l == 93 || tkC l == 45))) := by
      unfold memC memR memB
      rw [hh, if_neg h92, if_neg h92, if_neg h92]
      exact ⟨rfl, rfl, fun b => by rw [Bool.or_assoc]⟩
    have HF := Lib.hid F
    have e93 : (((tkC l).toNat : Int) == (93 : Int)) = (tkC l == 93) := q93
    have e45 : (((tkC l).toNat : Int) == (45 : Int)) = (tkC l == 45) := q45
    clear F h92 q92 q93 q45 hh
    cases h93 : tkC l == 93 with
    | true =>
      rw [h93] at e93
      have H93 := Lib.hid h93
      clear h93 e45
      go_enter Try.func31, Try.ntmps31
      go_wp2_with fail
      refine T.out.mono ?_
      rintro e w1 ⟨rfl, h1, k1⟩
      have fin := h1.set (i := 2) (h1.blk.s2 true)
      have hc2 := h1.blk.c2
      have hf2 := h1.blk.fr 2
      have Fin := Lib.hid fin
      clear fin h1
      go_wp2
      go_ret
      rw [HF.out.1, HF.out.2.1, HF.out.2.2, H93.out, Bool.true_or, Bool.or_true]
      exact ⟨rfl, Fin.out, k1.trans (only_set w1 g _ _)⟩
    | false =>
      rw [h93] at e93
      have H93 := Lib.hid h93
      clear h93
      cases h45 : tkC l == 45 with
      | true =>
        rw [h45] at e45
        have H45 := Lib.hid h45
        clear h45
        go_enter Try.func31, Try.ntmps31
        go_wp2_with fail
        refine T.out.mono ?_
        rintro e w1 ⟨rfl, h1, k1⟩
        have fin := h1.set (i := 2) (h1.blk.s2 true)
        have hc2 := h1.blk.c2
        have hf2 := h1.blk.fr 2
        have Fin := Lib.hid fin
        clear fin h1
        go_wp2
        go_ret
        rw [HF.out.1, HF.out.2.1, HF.out.2.2, H45.out, Bool.or_true, Bool.or_true]
        exact ⟨rfl, Fin.out, k1.trans (only_set w1 g _ _)⟩
      | false =>
        rw [h45] at e45
        have H45 := Lib.hid h45
        clear h45
        go_enter Try.func31, Try.ntmps31
        go_wp2_with fail
        refine T.out.mono ?_
        rintro e w1 ⟨rfl, h1, k1⟩
        go_wp2
        go_ret
        rw [HF.out.1, HF.out.2.1, HF.out.2.2, H93.out, H45.out, Bool.or_false, Bool.or_false]
        exact ⟨rfl, h1, k1⟩
end Go.Proofs.Ytkgldphpkglcmaa.Gl
