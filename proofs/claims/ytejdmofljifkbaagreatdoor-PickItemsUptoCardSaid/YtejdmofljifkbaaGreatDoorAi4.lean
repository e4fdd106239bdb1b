/- A part of the proof: its steps, joined out of smaller texts. -/
import Derived.Test.YtejdmofljifkbaaGreatDoorAi3
import Derived.Lib.FJoinFns
import Derived.Lib.SliceRun
import Derived.Lib.AppendIntMem
import Derived.Lib.RuneCountTail
import Derived.Lib.TrimUEq
import Derived.Lib.TrimU
import Derived.Laws.RangeAny
import Derived.Lib.MapLaws
set_option linter.unusedVariables false
set_option linter.unusedSimpArgs false
namespace Go.Proofs.YtejdmofljifkbaaGreatDoor.P
open Go.RowKit Go.Shelf Go.Proofs.YtejdmofljifkbaaGreatDoorW.PrintWords Go.Proofs.YtejdmofljifkbaaGreatDoorW.PrintLast Go.Proofs.YtejdmofljifkbaaGreatDoorW.PrintMore
set_option linter.unusedVariables false
attribute [local go_sem] Oper.semAt_some
theorem splitSeq_in (s : ByteArray) (n : Nat) (w : World) :
  CallsIn Fence.wide n Tryz.prog 178 #[.string s, .string ⟨#[47]⟩, .int .i64 0] w fun e w' => e = .returned (.func (.func 188) #[] #[.pointer (some ⟨w.heap.size + 1, 0, none⟩), .pointer (some ⟨w.heap.size, 0, none⟩), .pointer (some ⟨w.heap.size + 1 + 1, 0, none⟩)]) ∧ w' = ((w.alloc (.cells #[.string s] 9)).alloc (.cells #[.string ⟨#[47]⟩] 9)).alloc (.cells #[.int .i64 0] 3) := by
 refine callsIn_of_wp Tryz.func178 rfl trivial ?_ rfl
 simp only [Tryz.ntmps178, List.size_toArray, List.length_cons, List.length_nil, Nat.reduceAdd, Nat.reduceSub, Array.replicate_succ, Array.replicate_zero, List.push_toArray, List.append_toArray, List.nil_append, List.cons_append]
 gi_wp2
 go_ret
 exact ⟨rfl, rfl⟩
theorem SplitSeq_in (s : ByteArray) (n : Nat) (hn : 1 ≤ n) (w : World) :
  CallsIn Fence.wide n Tryz.prog 167 #[.string s, .string ⟨#[47]⟩] w fun e w' => e = .returned (.func (.func 188) #[] #[.pointer (some ⟨w.heap.size + 1, 0, none⟩), .pointer (some ⟨w.heap.size, 0, none⟩), .pointer (some ⟨w.heap.size + 1 + 1, 0, none⟩)]) ∧ w' = ((w.alloc (.cells #[.string s] 9)).alloc (.cells #[.string ⟨#[47]⟩] 9)).alloc (.cells #[.int .i64 0] 3) := by
 refine callsIn_of_wp Tryz.func167 rfl trivial ?_ rfl
 simp only [Tryz.ntmps167, List.size_toArray, List.length_cons, List.length_nil, Nat.reduceAdd, Nat.reduceSub, Array.replicate_succ, Array.replicate_zero, List.push_toArray, List.append_toArray, List.nil_append, List.cons_append]
 gi_wp2_with (refine ⟨trivial, ?_⟩; gi_at_call 178; refine (splitSeq_in _ _ _).mono ?_; rintro e w' ⟨rfl, rfl⟩)
 go_ret
 exact ⟨rfl, rfl⟩
def keepP (x : ByteArray) : Bool := !(x.toList == ([] : List UInt8)) && !(x.toList == ([46] : List UInt8))
def prt (l : List ByteArray) : List ByteArray := l.filter keepP
def partsL (s : ByteArray) : List ByteArray := prt ((sp s.data.toList).map tx)
theorem prt_hit (pre : List ByteArray) {x : ByteArray} (h : keepP x = true) : prt (pre ++ [x]) = prt pre ++ [x] := by simp [prt, h]
theorem prt_miss (pre : List ByteArray) {x : ByteArray} (h : keepP x = false) : prt (pre ++ [x]) = prt pre := by simp [prt, h]
theorem row_above {W : World} {base : Nat} {e : TypeId} {size : Nat} {v : Value} {k : Nat} {xs : List Value} (h : W.ownsRow base e size v k xs) {B : Nat} (hB : B < base) : some B ≠ v.ownBlock := by
 rcases h.2 with ⟨rfl, _⟩ | ⟨g, cap, cur, rfl, hb, _, _⟩
 ·simp [Value.ownBlock]
 ·intro e'
  obtain rfl : B = g := by simpa [Value.ownBlock] using e'
  omega
theorem row_mono {W : World} {base H : Nat} {e : TypeId} {size : Nat} {v : Value} {k : Nat} {xs : List Value} (h : W.ownsRow base e size v k xs) (hH : H ≤ base) : W.ownsRow H e size v k xs := by
 refine ⟨h.1, ?_⟩
 rcases h.2 with h2 | ⟨g, cap, cur, h1, hb, h2⟩
 ·exact .inl h2
 ·exact .inr ⟨g, cap, cur, h1, Nat.le_trans hH hb, h2⟩
theorem app_step {W w1 : World} {H base B : Nat} {t e : TypeId} {size : Nat} {v v' : Value} {k m : Nat} {xs ys : List Value} {tmp : Obj}
  (hv : Boxed W B t v) (hte : t ≠ e) (hrow : W.ownsRow base e size v k xs) (hbase : base ≤ W.heap.size) (hH : H ≤ B) (hHb : H ≤ base)
  (hown' : w1.ownsRow base e size v' m ys) (hgrow : (W.alloc tmp).grownBy w1 v.ownBlock) :
  Boxed w1 B t v ∧ Boxed (w1.setCell ⟨B, 0, none⟩ v') B t v' ∧ (w1.setCell ⟨B, 0, none⟩ v').ownsRow base e size v' m ys ∧ KeepsOthers W (w1.setCell ⟨B, 0, none⟩ v') ∧ Below H W (w1.setCell ⟨B, 0, none⟩ v') ∧
   ∀ B' t' u, B' < base → B' ≠ B → Boxed W B' t' u → Boxed (w1.setCell ⟨B, 0, none⟩ v') B' t' u := by
 obtain ⟨h1, h2, _, h4, h5⟩ := hv.appended hte (row_mono hrow hHb) (Nat.le_trans hHb hbase) hH (row_mono hown' hHb) hgrow
 refine ⟨h1, h2, hown'.kept (grownBy_setCell' w1 B v') (.inr (h1.not_row hte hown').symm), h4, h5, fun B' t' u hB hne hb => ?_⟩
 exact ((hb.alloc tmp).kept hgrow (row_above hrow hB)).other hne _
theorem info_str : (Tryz.prog.info? 9).map (fun i => (i.zero, i.size, i.bytes)) = some (some (.string ⟨#[]⟩), 1, 16) := by kernel_rfl
def PI (w : World) (H : Nat) (s : List ByteArray × ByteArray) (W : World) : Prop :=
 ((((∃ v, Boxed W H 74 v ∧ W.ownsRow (H + 4) 9 1 v (prt s.1).length ((prt s.1).map Value.string) ∧ True) ∧ Boxed W (H + 1) 9 (.string s.2)) ∧ Boxed W (H + 2) 9 (.string ⟨#[47]⟩)) ∧ Boxed W (H + 3) 3 (.int .i64 0)) ∧ Below H w W
theorem PI_own (w : World) (B : Nat) (hB : w.heap.size ≤ B) : OwnFrom B (PI w w.heap.size) :=
 OwnFrom.and (OwnFrom.and (OwnFrom.and (OwnFrom.and (Own.from (holdsRow_own (w.heap.size + 4) w.heap.size 74 9 1 (fun (s : List ByteArray × ByteArray) => (prt s.1).length) (fun s => (prt s.1).map Value.string) (fun _ _ => True)) _) (Own.from (boxed_own (w.heap.size + 1) 9 (fun (s : List ByteArray × ByteArray) => .string s.2)) _)) (Own.from (boxed_own (w.heap.size + 2) 9 (fun _ => .string ⟨#[47]⟩)) _)) (Own.from (boxed_own (w.heap.size + 3) 3 (fun _ => .int .i64 0)) _)) (ownFrom_below (Nat.le_refl _) hB)
theorem PI_set (w : World) (H : Nat) (hH : H ≤ w.heap.size) (pre : List ByteArray) (r r' : ByteArray) (W : World) (h : PI w H (pre, r) W) : PI w H (pre, r') (W.setCell ⟨H + 1, 0, none⟩ (.string r')) := by
 obtain ⟨⟨⟨⟨⟨v, h1, h2, h6⟩, h3⟩, h4⟩, h5⟩, hb⟩ := h
 exact ⟨⟨⟨⟨⟨v, h1.other (by omega) _, h2.kept (grownBy_setCell' W (H + 1) _) (.inr (row_above h2 (by omega)).symm), h6⟩, h3.set _⟩, h4.other (by omega) _⟩, h5.other (by omega) _⟩, hb.setCell (p := ⟨H + 1, 0, none⟩) (by show H ≤ H + 1; omega) _⟩
set_option maxRecDepth 100000 in
set_option maxHeartbeats 3200000 in
theorem parts_calls (s : ByteArray) (hs : s.size ≤ 1000000) (w : World) :
  Calls Tryz.prog 149 #[.string s] w fun e W' => ∃ v, e = .returned v ∧ W'.ownsRow (w.heap.size + 4) 9 1 v (partsL s).length ((partsL s).map Value.string) ∧ Below w.heap.size w W' := by
 refine (callsIn_wide (n := 6)).1 ?_
 obtain ⟨i0, hi, hz0, hz1, hz2⟩ := info_parts info_str
 refine callsIn_of_wp_marks Tryz.func149 rfl trivial ?_ rfl
 simp only [Tryz.ntmps149, List.size_toArray, List.length_cons, List.length_nil, Nat.reduceAdd, Nat.reduceSub, Array.replicate_succ, Array.replicate_zero, List.push_toArray, List.append_toArray, List.nil_append, List.cons_append]
 gi_wp2_with (refine ⟨trivial, ?_⟩; gi_at_call 167; refine (SplitSeq_in s _ (by omega) _).mono ?_; rintro e w' ⟨rfl, rfl⟩)
 have bO := Boxed.new w 74 (.slice none 0 0)
 have bS := Boxed.new (w.alloc (.cells #[.slice none 0 0] 74)) 9 (.string s)
 have bP := Boxed.new ((w.alloc (.cells #[.slice none 0 0] 74)).alloc (.cells #[.string s] 9)) 9 (.string ⟨#[47]⟩)
 have bV := Boxed.new (((w.alloc (.cells #[.slice none 0 0] 74)).alloc (.cells #[.string s] 9)).alloc (.cells #[.string ⟨#[47]⟩] 9)) 3 (.int .i64 0)
 replace bO := ((bO.alloc (.cells #[.string s] 9)).alloc (.cells #[.string ⟨#[47]⟩] 9)).alloc (.cells #[.int .i64 0] 3)
 replace bS := (bS.alloc (.cells #[.string ⟨#[47]⟩] 9)).alloc (.cells #[.int .i64 0] 3)
 replace bP := bP.alloc (.cells #[.int .i64 0] 3)
 have hB0 : Below w.heap.size w ((((w.alloc (.cells #[.slice none 0 0] 74)).alloc (.cells #[.string s] 9)).alloc (.cells #[.string ⟨#[47]⟩] 9)).alloc (.cells #[.int .i64 0] 3)) :=
  ((((Below.refl _ w).alloc (Nat.le_refl _) _).alloc (by simp) _).alloc (by first | (simp; done) | (simp; omega)) _).alloc (by first | (simp; done) | (simp; omega)) _
 simp only [World.size_alloc] at bS bP bV
 have hPI : PI w w.heap.size ([], s) ((((w.alloc (.cells #[.slice none 0 0] 74)).alloc (.cells #[.string s] 9)).alloc (.cells #[.string ⟨#[47]⟩] 9)).alloc (.cells #[.int .i64 0] 3)) :=
  ⟨⟨⟨⟨⟨_, bO, World.ownsRow_nil _ _ _ _, trivial⟩, bS⟩, bP⟩, bV⟩, hB0⟩
 have hsz := bV.lt
 obtain ⟨W0, hW0⟩ : ∃ W0, ((((w.alloc (.cells #[.slice none 0 0] 74)).alloc (.cells #[.string s] 9)).alloc (.cells #[.string ⟨#[47]⟩] 9)).alloc (.cells #[.int .i64 0] 3)) = W0 := ⟨_, rfl⟩
 rw [hW0] at hPI hB0 hsz ⊢
 clear bO bS bP bV hW0
 refine split_range 6 (by omega) (w.heap.size + 2) (w.heap.size + 1) (w.heap.size + 3) rfl s hs (PI w w.heap.size) (PI_own w _ hB0.size) (fun pre r W h => ⟨h.1.1.1.2.cell, h.1.1.1.2.frozen, h.1.1.2.cell, h.1.2.cell⟩) (fun pre r r' W h => PI_set w _ (Nat.le_refl _) pre r r' W h) hPI rfl
  (fun x => { tmps := #[.string s, undef, .slice none 0 0, .pointer (some ⟨w.heap.size, 0, none⟩), .string x, .string s, .func (.func 188) #[] #[.pointer (some ⟨w.heap.size + 1 + 1, 0, none⟩), .pointer (some ⟨w.heap.size + 1, 0, none⟩), .pointer (some ⟨w.heap.size + 1 + 1 + 1, 0, none⟩)], .string x, undef, undef, undef, undef, undef, undef, undef, undef, undef, undef, undef], defers := [] }) ?assign ?body ?done
 case assign =>
  intro l x W K hK
  gi_wp2
  exact hK
 case body =>
  rintro l pre r x W hl hx hpl ⟨⟨⟨⟨⟨v, hv, hrow, _⟩, h3⟩, h4⟩, h5⟩, hb⟩
  dsimp only at hrow h3
  have hc := hv.cell
  have hpp : (prt pre).length ≤ pre.length := List.length_filter_le _ _
  have h5l := h5.lt
  cases k1 : (x.toList == ([] : List UInt8)) with
  | true =>
   have k1b : (x.toList != ([] : List UInt8)) = false := by simp [bne, k1]
   gi_wp2
   have hkp : keepP x = false := by simp [keepP, k1]
   exact ⟨KeepsFrom.refl _ _, ⟨⟨⟨⟨v, hv, by dsimp only; rw [prt_miss pre hkp]; exact hrow, trivial⟩, h3⟩, h4⟩, h5⟩, hb⟩
  | false =>
   have k1b : (x.toList != ([] : List UInt8)) = true := by simp [bne, k1]
   cases k2 : (x.toList == ([46] : List UInt8)) with
   | true =>
    have k2b : (x.toList != ([46] : List UInt8)) = false := by simp [bne, k2]
    gi_wp2
    have hkp : keepP x = false := by simp [keepP, k1, k2]
    exact ⟨KeepsFrom.refl _ _, ⟨⟨⟨⟨v, hv, by dsimp only; rw [prt_miss pre hkp]; exact hrow, trivial⟩, h3⟩, h4⟩, h5⟩, hb⟩
   | false =>
    have k2b : (x.toList != ([46] : List UInt8)) = true := by simp [bne, k2]
    gi_wp2_with (gi_at_builtin; refine wpListIn_append_own _ rfl _ _ 74 rfl (w.heap.size + 4) 9 i0 (.string ⟨#[]⟩) 1 16 Tryz.underlying74 hi hz0 hz1 hz2 rfl (by decide) _ _ _ rfl (hrow.alloc _) ⟨W.heap.size, 0, none⟩ 1 1 [.string x] rfl rfl (cell_one_new _ _ _) (by simp [Value.oneCell']) (by unfold maxLen; omega) (by omega) (by simp; omega) ?_; intro v' w1 hown' hgrow _; obtain ⟨g', cap', rfl⟩ := ownsRow_succ hown'; obtain ⟨hv1, hv2, hr2, hk2, hb2, hot⟩ := app_step hv (by decide) hrow (by omega) (Nat.le_refl w.heap.size) (by omega) hown' hgrow; have hc1 := hv1.cell; have hf1 := hv1.frozen)
    have hkp : keepP x = true := by simp [keepP, k1, k2]
    exact ⟨hk2.from _, ⟨⟨⟨⟨_, hv2, by dsimp only; rw [prt_hit pre hkp]; simpa using hr2, trivial⟩, hot _ _ _ (by omega) (by omega) h3⟩, hot _ _ _ (by omega) (by omega) h4⟩, hot _ _ _ (by omega) (by omega) h5⟩, hb.trans hb2⟩
 case done =>
  rintro D r W hD ⟨⟨⟨⟨⟨v, hv, hrow, _⟩, h3⟩, h4⟩, h5⟩, hb⟩ hK
  have hc := hv.cell
  gi_wp2
  refine ⟨by simp, .inl ⟨_, _, rfl, run_takeDeferred hK, ?_⟩⟩
  exact ⟨_, results_tmp rfl _ _ _, v, rfl, ownsRow_putObj hrow _ hK rfl, hb.trans (belowK_b (w := w) (Nat.le_refl _) W D _ _ (Nat.le_trans hB0.size hD) hK rfl rfl)⟩
end Go.Proofs.YtejdmofljifkbaaGreatDoor.P
namespace Go.Proofs.YtejdmofljifkbaaGreatDoor.P
open Go.RowKit Go.Shelf Go.Proofs.YtejdmofljifkbaaGreatDoorW.PrintWords Go.Proofs.YtejdmofljifkbaaGreatDoorW.PrintLast Go.Proofs.YtejdmofljifkbaaGreatDoorW.PrintMore
set_option linter.unusedVariables false
attribute [local go_sem] Oper.semAt_some
def joinB (l : List ByteArray) : ByteArray := ⟨(Lib.join (l.map (·.data.toList)) [47]).toArray⟩
def tot : List ByteArray → Nat
 | [] => 0
 | x :: t => x.size + 1 + tot t
theorem tot_len : ∀ l, l.length ≤ tot l
 | [] => Nat.le_refl _
 | x :: t => by
  have := tot_len t
  simp only [tot, List.length_cons]
  omega
theorem tot_drop : ∀ (m : Nat) (l : List ByteArray), tot (l.drop m) ≤ tot l
 | 0, l => by simp
 | m + 1, [] => by simp
 | m + 1, x :: t => by
  have := tot_drop m t
  simp only [List.drop_succ_cons, tot]
  omega
theorem tot_filter (p : ByteArray → Bool) : ∀ l, tot (l.filter p) ≤ tot l
 | [] => Nat.le_refl _
 | x :: t => by
  have ih := tot_filter p t
  rw [List.filter_cons]
  split
  ·simp only [tot]; omega
  ·simp only [tot]; omega
theorem tot_sp : ∀ l : List UInt8, tot ((sp l).map tx) = l.length + 1
 | [] => rfl
 | c :: t => by
  have ih := tot_sp t
  unfold sp
  split
  ·simp only [List.map_cons, tot, ih, tx_size, List.length_cons, List.length_nil]; omega
  ·obtain ⟨h, r, e⟩ := sp_some t
   rw [e] at ih ⊢
   simp only [List.map_cons, tot, tx_size, List.length_cons] at ih ⊢
   omega
theorem tot_parts (s : ByteArray) (hs : s.size ≤ 1000000) : tot (partsL s) ≤ 1000001 := by
 have h1 := tot_filter keepP ((sp s.data.toList).map tx)
 rw [tot_sp, data_length] at h1
 unfold partsL prt
 omega
theorem join_small (l : List ByteArray) (h : tot l ≤ 1000001) : (Lib.join (l.map (·.data.toList)) [47]).length ≤ 1000001 := by
 have h1 := Go.Lib.Pa.join_len_le (l.map (·.data.toList))
 have h2 : ∀ l : List ByteArray, Lib.lens (l.map (·.data.toList)) + (l.map (·.data.toList)).length = tot l := by
  intro l
  induction l with
  | nil => rfl
  | cons x t ih =>
   simp only [List.map_cons, tot, List.length_cons] at ih ⊢
   have : Lib.lens (x.data.toList :: t.map (·.data.toList)) = x.data.toList.length + Lib.lens (t.map (·.data.toList)) := by simp [Lib.lens]
   rw [this, data_length]
   omega
 rw [h2] at h1
 omega
theorem row_slice {W : World} {base : Nat} {e : TypeId} {v : Value} {k : Nat} {xs : List Value} (h : W.ownsRow base e 1 v k xs) : ∃ A cap, v = .slice A k cap := by
 rcases h.2 with ⟨rfl, rfl⟩ | ⟨g, cap, cur, rfl, _⟩
 ·exact ⟨_, _, rfl⟩
 ·exact ⟨_, _, rfl⟩
theorem row_open {W : World} {base : Nat} {e : TypeId} {v : Value} {L : List ByteArray} (h : W.ownsRow base e 1 v L.length (L.map Value.string)) (hp : 0 < L.length) :
  ∃ g cap, v = .slice (some ⟨g, 0, none⟩) L.length cap ∧ (base ≤ g ∧ g < W.heap.size) ∧ L.length ≤ cap ∧ ∀ (j : Nat) x, L[j]? = some x → W.cell? ⟨g, j, none⟩ = some (.string x) := by
 rcases h.2 with ⟨rfl, h0⟩ | ⟨g, cap, cur, rfl, hb, hg, hc, _, hsz, htk⟩
 ·omega
 ·refine ⟨g, cap, rfl, ⟨hb, (Array.getElem?_eq_some_iff.1 hg).1⟩, hc, fun j x hj => ?_⟩
  rw [cell_of_row _ _ j _ _ _ hg, ← Array.getElem?_toList]
  have h1 : (L.map Value.string)[j]? = some (.string x) := by rw [List.getElem?_map, hj]; rfl
  rw [← htk, List.getElem?_take] at h1
  split at h1
  ·exact h1
  ·cases h1
set_option maxRecDepth 100000 in
set_option maxHeartbeats 3200000 in
theorem strip_calls (s : ByteArray) (n : Int) (hs : s.size ≤ 1000000) (w : World) :
  Calls Tryz.prog 121 #[.string s, .int .i64 n] w fun e W' => (e = .returned (.tuple #[.string (if n < 0 ∨ ((partsL s).length : Int) ≤ n then ⟨#[]⟩ else joinB ((partsL s).drop n.toNat)), .bool (if n < 0 ∨ ((partsL s).length : Int) ≤ n then false else true)])) ∧ Below w.heap.size w W' := by
 obtain ⟨L, hL⟩ : ∃ L, partsL s = L := ⟨_, rfl⟩
 rw [hL]
 have hT := tot_parts s hs
 rw [hL] at hT
 have HL := Lib.hid hL
 clear hL
 go_enter Tryz.func121, Tryz.ntmps121
 by_cases hn : n < 0
 ·have hd : decide (n < 0) = true := decide_eq_true hn
  rw [if_pos (Or.inl hn), if_pos (Or.inl hn)]
  go_wp2_with (go_at_call 149; refine (parts_calls s hs _).mono ?_; rintro e w' ⟨v, rfl, hrow, hb⟩; have HB := Lib.hid hb; clear hrow hb)
  go_ret2
  exact ⟨rfl, HB.out⟩
 ·have hd : decide (n < 0) = false := decide_eq_false hn
  by_cases hl : (L.length : Int) ≤ n
  ·have hd2 : decide ((L.length : Int) ≤ n) = true := decide_eq_true hl
   rw [if_pos (Or.inr hl), if_pos (Or.inr hl)]
   go_wp2_with (go_at_call 149; refine (parts_calls s hs _).mono ?_; rw [HL.out]; rintro e w' ⟨v, rfl, hrow, hb⟩; have HB := Lib.hid hb; clear hb; obtain ⟨A, cap, rfl⟩ := row_slice hrow; clear hrow)
   go_ret2
   exact ⟨rfl, HB.out⟩
  ·have hd2 : decide ((L.length : Int) ≤ n) = false := decide_eq_false hl
   rw [if_neg (fun h => h.elim hn hl), if_neg (fun h => h.elim hn hl)]
   obtain ⟨m, rfl⟩ : ∃ m : Nat, n = (m : Int) := ⟨n.toNat, by omega⟩
   have hm : m < L.length := by omega
   have g1 : ((m : Int) ≤ (L.length : Int)) = True := eq_true (by omega)
   have g2 : (0 ≤ (m : Int)) = True := eq_true (by omega)
   rw [Int.toNat_natCast]
   have hd3 : (L.length ≤ m) = False := eq_false (by omega)
   have hd4 : decide (L.length ≤ m) = false := decide_eq_false (by omega)
   have HM := Lib.hid hm
   clear hn hl hm
   have hJ := join_small (L.drop m) (Nat.le_trans (tot_drop m L) hT)
   have HJ2 := Lib.hid hJ
   clear hJ
   go_wp2_with (first
    | (go_at_call 149; refine (parts_calls s hs _).mono ?_; rw [HL.out]; rintro e w' ⟨v, rfl, hrow, hb⟩; have HB := Lib.hid hb; clear hb; obtain ⟨g, cap, rfl, hg, hcap, hcells⟩ := row_open hrow (by have := HM.out; omega); have hne : (cap = m) = False := eq_false (by have := HM.out; omega); have HCP := Lib.hid hcap; have HCE := Lib.hid hcells; have HG := Lib.hid hg; clear hrow hcap hcells hg)
    | (go_at_call 27; rw [← List.length_drop]; refine (Tryz.strings_Join g m (cap - m) (L.drop m) ⟨#[47]⟩ _ (fun j x hj => HCE.out (m + j) x (by rw [List.getElem?_drop] at hj; exact hj)) HG.out.2 (by rw [List.length_drop]; have := tot_len L; omega) (by rw [List.length_drop]; have := HCP.out; omega) (Nat.le_trans HJ2.out (by decide))).mono ?_; rintro e w2 ⟨rfl, hb2⟩; have HB2 := Lib.hid (below_step HB.out hb2); clear hb2))
   go_ret2
   exact ⟨by unfold joinB; rw [List.map_drop]; rfl, HB2.out⟩
end Go.Proofs.YtejdmofljifkbaaGreatDoor.P
namespace Go.Proofs.YtejdmofljifkbaaGreatDoor.P
open Go.RowKit Go.Shelf Go.Proofs.YtejdmofljifkbaaGreatDoorW.PrintWords Go.Proofs.YtejdmofljifkbaaGreatDoorW.PrintLast Go.Proofs.YtejdmofljifkbaaGreatDoorW.PrintMore
set_option linter.unusedVariables false
attribute [local go_sem] Oper.semAt_some
def stripOk (s : ByteArray) (n : Int) : Bool := if n < 0 ∨ ((partsL s).length : Int) ≤ n then false else true
def stripL (s : ByteArray) (n : Int) : ByteArray := if n < 0 ∨ ((partsL s).length : Int) ≤ n then ⟨#[]⟩ else joinB ((partsL s).drop n.toNat)
def preL (px s : ByteArray) : ByteArray := if px.toList.isEmpty = true then s else px ++ ⟨#[47]⟩ ++ s
def namOk (st : Int) (s : ByteArray) : Bool := if decide (0 < st) = true then stripOk s st else true
def namL (st : Int) (px s : ByteArray) : ByteArray := if decide (0 < st) = true then (if stripOk s st = true then preL px (stripL s st) else ⟨#[]⟩) else preL px s
theorem strip_size (s : ByteArray) (n : Int) (hs : s.size ≤ 1000000) : (stripL s n).size ≤ 1000001 := by
 unfold stripL
 split
 ·exact Nat.zero_le _
 ·have h := join_small ((partsL s).drop n.toNat) (Nat.le_trans (tot_drop _ _) (tot_parts s hs))
  unfold joinB
  show (List.toArray _).size ≤ _
  rw [List.size_toArray]
  exact h
set_option maxRecDepth 100000 in
set_option maxHeartbeats 3200000 in
theorem named_calls (all : Bool) (A : Option Addr) (len cap : Nat) (st : Int) (px s : ByteArray) (hs : s.size ≤ 1000000) (hpx : px.size ≤ 1000000) (w : World) :
  Calls Tryz.prog 87 #[.agg #[.bool all, .slice A len cap, .int .i64 st, .string px], .string s] w fun e W' => e = .returned (.tuple #[.string (namL st px s), .bool (namOk st s)]) ∧ Below w.heap.size w W' := by
 have HB0 := Lib.hid ((Below.refl w.heap.size w).alloc (Nat.le_refl _) (.cells #[.bool all, .slice A len cap, .int .i64 st, .string px] 43))
 obtain ⟨X, hX⟩ : ∃ X, stripL s st = X := ⟨_, rfl⟩
 have hx1 : X.size ≤ 1000001 := hX ▸ strip_size s st hs
 obtain ⟨O, hO⟩ : ∃ O, stripOk s st = O := ⟨_, rfl⟩
 have hSC := fun W => strip_calls s st hs W
 change ∀ W, Calls _ _ _ W fun e W' => (e = .returned (.tuple #[.string (stripL s st), .bool (stripOk s st)])) ∧ Below W.heap.size W W' at hSC
 unfold namL namOk
 rw [hX, hO]
 rw [hX, hO] at hSC
 have HSC := Lib.hid hSC
 clear hSC
 go_enter Tryz.func87, Tryz.ntmps87
 have q1 : (9223372036854775807 < px.size + 1) = False := eq_false (by omega)
 have q2 : (9223372036854775807 < px.size + 1 + X.size) = False := eq_false (by omega)
 have q3 : (9223372036854775807 < px.size + 1 + s.size) = False := eq_false (by omega)
 cases hd : decide (0 < st) with
 | true =>
  rw [if_pos rfl, if_pos rfl]
  cases O with
  | false =>
   go_wp2_with (go_at_call 121; refine (HSC.out _).mono ?_; rintro e w' ⟨rfl, hb⟩; have HB := Lib.hid (below_step HB0.out hb); have bP : w'.heap[w.heap.size]? = some (.cells #[.bool all, .slice A len cap, .int .i64 st, .string px] 43 (0, 0)) := (hb.block _ (by simp)).trans (heap_alloc_new w _); have c3 : w'.cell? ⟨w.heap.size, 3, none⟩ = some (.string px) := (cell_of_row _ _ 3 _ _ _ bP).trans rfl; clear bP hb)
   go_ret2
   exact ⟨rfl, HB.out⟩
  | true =>
   rw [if_pos rfl]
   cases hE : px.toList.isEmpty with
   | true =>
    go_wp2_with (go_at_call 121; refine (HSC.out _).mono ?_; rintro e w' ⟨rfl, hb⟩; have HB := Lib.hid (below_step HB0.out hb); have bP : w'.heap[w.heap.size]? = some (.cells #[.bool all, .slice A len cap, .int .i64 st, .string px] 43 (0, 0)) := (hb.block _ (by simp)).trans (heap_alloc_new w _); have c3 : w'.cell? ⟨w.heap.size, 3, none⟩ = some (.string px) := (cell_of_row _ _ 3 _ _ _ bP).trans rfl; clear bP hb)
    go_ret2
    exact ⟨by simp [preL, hE], HB.out⟩
   | false =>
    go_wp2_with (go_at_call 121; refine (HSC.out _).mono ?_; rintro e w' ⟨rfl, hb⟩; have HB := Lib.hid (below_step HB0.out hb); have bP : w'.heap[w.heap.size]? = some (.cells #[.bool all, .slice A len cap, .int .i64 st, .string px] 43 (0, 0)) := (hb.block _ (by simp)).trans (heap_alloc_new w _); have c3 : w'.cell? ⟨w.heap.size, 3, none⟩ = some (.string px) := (cell_of_row _ _ 3 _ _ _ bP).trans rfl; clear bP hb)
    go_ret2
    exact ⟨by simp [preL, hE], HB.out⟩
 | false =>
  rw [if_neg (by decide), if_neg (by decide)]
  cases hE : px.toList.isEmpty with
  | true =>
   go_wp2_with fail
   go_ret2
   exact ⟨by simp [preL, hE], HB0.out⟩
  | false =>
   go_wp2_with fail
   go_ret2
   exact ⟨by simp [preL, hE], HB0.out⟩
end Go.Proofs.YtejdmofljifkbaaGreatDoor.P
namespace Go.Proofs.YtejdmofljifkbaaGreatDoor.P
open Go.RowKit Go.Shelf Go.Proofs.YtejdmofljifkbaaGreatDoorW.PrintWords Go.Proofs.YtejdmofljifkbaaGreatDoorW.PrintLast Go.Proofs.YtejdmofljifkbaaGreatDoorW.PrintMore
set_option linter.unusedVariables false
set_option maxRecDepth 100000 in
set_option maxHeartbeats 3200000 in
theorem clone_pairs (A0 : Option Addr) (c0 : Nat) (l0 : List (S65)) (w : World) (hr0 : Kd.C k65 w A0 l0.length l0) (hl : l0.length < 4398046511104) :
  Calls Tryz.prog 119 #[.slice A0 l0.length c0] w fun e w' => ∃ v0_ : Value, e = .returned (v0_) ∧ Kd.R k65 65 w' w.heap.size (fun _ => True) v0_ l0 ∧ Below w.heap.size w w' := by
 have hu := Tryz.underlying24
 have hu2 := Tryz.underlying65
 have q24 : ∀ (w : World) (a : Option Addr) (n c n' c' : Nat), (binOp .eql 24 (.slice a n c) (.slice none n' c')).run Tryz.prog w = .ok (.bool a.isNone) w := fun w a n c n' c' => Lib.run_eql_slice_nil w _ _ a n c n' c' hu
 have HB := Aside0.mk (Below.refl w.heap.size w)
 have HR0 := Aside0.mk hr0
 have HL := Aside0.mk hl
 go_enter Tryz.func119, Tryz.ntmps119
 rcases A0 with _ | ad
 ·have h0 : l0 = [] := by
   cases l0 with
   | nil => rfl
   | cons x t =>
    obtain ⟨ad, h, _⟩ := at_T65 hr0 0 (Int.le_refl _) (by simp)
    cases h
  subst h0
  clear hr0 hl
  go_wp2
  go_ret
  exact ⟨_, rfl, Kd.R_nil _ _ _ _ _, HB.out⟩
 ·clear hr0 hl
  obtain ⟨y, hy⟩ : ∃ y : List (S65), y = [] ++ l0 := ⟨_, rfl⟩
  have Ny := Aside0.mk hy
  clear hy
  go_wp2_with (first
   | ((with_reducible refine gate_dst (N := 5) rfl ?_); refine Kd.R_lit k65 _ 65 ?hg (N := 5) ?hd (xs := ([] : List (S65))) (inner := []) (ok := fun _ => True) (okp := fun _ => True) ?hr ?hp (fun _ hk => hk) trivial (Below.refl _ _) (Nat.le_refl _) (by simp) ?_; (case hd => rfl); (case hg => rfl); (case hr => first | (go_simp; done) | (go_simp; rfl)); (case hp => exact (Reps.none _ _)); intro v241 w5 ho6 hb hg_ hnew_; clear hg_ hnew_; (try simp only [Int.reduceToNat] at ho6); have HO242 := Aside0.mk (Kd.R_lower ho6 (below_size HB.out)); have HB := Aside0.mk (below_step HB.out hb); clear hb ho6)
   | ((with_reducible refine gate_builtin (b := .append) (xs := #[.tmp 5, .tmp 6]) rfl ?_); at_builtin; refine Kd.R_append_rows k65 (w0 := w) w.heap.size rfl (.tmp 5) (.tmp 6) 24 65 (.agg #[(.string ⟨#[]⟩), (.string ⟨#[]⟩)]) 32 rfl Tryz.underlying24 info65 rfl (by decide) (by omega) v241 [] l0 _ _ _ (fun _ => True) (fun _ => False) rfl rfl ?aO ?aR (fun _ _ h => h) (fun _ h => h.elim) ?aF ?aB ?aS ?aL ?_; (case aR => exact (Kd.C_below HR0.out HB.out)); (case aB => exact HB.out); (case aF => exact (fun _ _ => trivial)); (case aO => exact HO242.out); (case aS => exact (below_size HB.out)); (case aL => have := HL.out; simp only [List.length_nil]; omega); intro v244 w7 ho hb hg hat; rw [List.nil_append] at ho; have HB2 := Aside0.mk (hb); have HO245 := Aside0.mk (ho); clear ho hb hg hat))
  go_ret
  exact ⟨_, rfl, HO245.out, HB2.out⟩
set_option maxRecDepth 100000 in
set_option maxHeartbeats 3200000 in
theorem clone_bytes (A0 : Option Addr) (c0 : Nat) (l0 : List Int) (w : World) (hr0 : Kd.C (Kd.int .u8) w A0 l0.length l0) (hl : l0.length < 4398046511104) :
  Calls Tryz.prog 120 #[.slice A0 l0.length c0] w fun e w' => ∃ v0_ : Value, e = .returned (v0_) ∧ Kd.R (Kd.int .u8) 5 w' w.heap.size (fun _ => True) v0_ l0 ∧ Below w.heap.size w w' := by
 have hu := Tryz.underlying27
 have hu2 := Tryz.underlying5
 have q24 : ∀ (w : World) (a : Option Addr) (n c n' c' : Nat), (binOp .eql 27 (.slice a n c) (.slice none n' c')).run Tryz.prog w = .ok (.bool a.isNone) w := fun w a n c n' c' => Lib.run_eql_slice_nil w _ _ a n c n' c' hu
 have HB := Aside0.mk (Below.refl w.heap.size w)
 have HR0 := Aside0.mk hr0
 have HL := Aside0.mk hl
 go_enter Tryz.func120, Tryz.ntmps120
 rcases A0 with _ | ad
 ·have h0 : l0 = [] := by
   cases l0 with
   | nil => rfl
   | cons x t =>
    obtain ⟨ad, h, _⟩ := Kd.at_int hr0 0 (Int.le_refl _) (by simp)
    cases h
  subst h0
  clear hr0 hl
  go_wp2
  go_ret
  exact ⟨_, rfl, Kd.R_nil _ _ _ _ _, HB.out⟩
 ·clear hr0 hl
  obtain ⟨y, hy⟩ : ∃ y : List Int, y = [] ++ l0 := ⟨_, rfl⟩
  have Ny := Aside0.mk hy
  clear hy
  go_wp2_with (first
   | ((with_reducible refine gate_dst (N := 5) rfl ?_); refine Kd.R_lit (Kd.int .u8) _ 5 ?hg (N := 5) ?hd (xs := ([] : List Int)) (inner := []) (ok := fun _ => True) (okp := fun _ => True) ?hr ?hp (fun _ hk => hk) trivial (Below.refl _ _) (Nat.le_refl _) (by simp) ?_; (case hd => rfl); (case hg => rfl); (case hr => first | (go_simp; done) | (go_simp; rfl)); (case hp => exact (Reps.none _ _)); intro v241 w5 ho6 hb hg_ hnew_; clear hg_ hnew_; (try simp only [Int.reduceToNat] at ho6); have HO242 := Aside0.mk (Kd.R_lower ho6 (below_size HB.out)); have HB := Aside0.mk (below_step HB.out hb); clear hb ho6)
   | ((with_reducible refine gate_builtin (b := .append) (xs := #[.tmp 5, .tmp 6]) rfl ?_); at_builtin; refine Kd.R_append_rows (Kd.int .u8) (w0 := w) w.heap.size rfl (.tmp 5) (.tmp 6) 27 5 (.int .u8 0) 1 rfl Tryz.underlying27 info5 rfl (by decide) (by omega) v241 [] l0 _ _ _ (fun _ => True) (fun _ => False) rfl rfl ?aO ?aR (fun _ _ h => h) (fun _ h => h.elim) ?aF ?aB ?aS ?aL ?_; (case aR => exact (Kd.C_below HR0.out HB.out)); (case aB => exact HB.out); (case aF => exact (fun _ _ => trivial)); (case aO => exact HO242.out); (case aS => exact (below_size HB.out)); (case aL => have := HL.out; simp only [List.length_nil]; omega); intro v244 w7 ho hb hg hat; rw [List.nil_append] at ho; have HB2 := Aside0.mk (hb); have HO245 := Aside0.mk (ho); clear ho hb hg hat))
  go_ret
  exact ⟨_, rfl, HO245.out, HB2.out⟩
end Go.Proofs.YtejdmofljifkbaaGreatDoor.P
namespace Go.Proofs.YtejdmofljifkbaaGreatDoor.P
open Go.RowKit Go.Proofs.YtejdmofljifkbaaGreatDoorW.PrintWords Go.Proofs.YtejdmofljifkbaaGreatDoorW.PrintLast Go.Proofs.YtejdmofljifkbaaGreatDoorW.PrintMore
set_option linter.unusedVariables false
def api_Pair_119.f (l0 : List (S65)) : Option ((List (S65))) := if l0.length < 4398046511104 then some l0 else none
theorem api_Pair_119.calls (A0 : Option Addr) (c0 : Nat) (l0 : List (S65)) (r : List (S65)) (w : World) (hr0 : Kd.C k65 w A0 l0.length l0) (hc0 : l0.length ≤ c0) (h : api_Pair_119.f l0 = some r) :
  Calls Tryz.prog 119 #[.slice A0 l0.length c0] w fun e w' => ∃ v0_ : Value, e = .returned (v0_) ∧ Kd.R k65 65 w' w.heap.size (fun _ => True) v0_ r ∧ Below w.heap.size w w' := by
 unfold api_Pair_119.f at h
 split at h
 ·rename_i hl
  cases h
  exact clone_pairs A0 c0 l0 w hr0 hl
 ·cases h
def slices_Clone_byte_byte.f (l0 : List Int) : Option (List Int) := if l0.length < 4398046511104 then some l0 else none
theorem slices_Clone_byte_byte.calls (A0 : Option Addr) (c0 : Nat) (l0 : List Int) (r : List Int) (w : World) (hr0 : Kd.C (Kd.int .u8) w A0 l0.length l0) (hc0 : l0.length ≤ c0) (h : slices_Clone_byte_byte.f l0 = some r) :
  Calls Tryz.prog 120 #[.slice A0 l0.length c0] w fun e w' => ∃ v0_ : Value, e = .returned (v0_) ∧ Kd.R (Kd.int .u8) 5 w' w.heap.size (fun _ => True) v0_ r ∧ Below w.heap.size w w' := by
 unfold slices_Clone_byte_byte.f at h
 split at h
 ·rename_i hl
  cases h
  exact clone_bytes A0 c0 l0 w hr0 hl
 ·cases h
end Go.Proofs.YtejdmofljifkbaaGreatDoor.P
namespace Go.Proofs.YtejdmofljifkbaaGreatDoor.P
open Go.RowKit Go.Proofs.YtejdmofljifkbaaGreatDoorW.PrintWords Go.Proofs.YtejdmofljifkbaaGreatDoorW.PrintLast Go.Proofs.YtejdmofljifkbaaGreatDoorW.PrintMore
attribute [local go_sem] max2_int min2_int max_two min_two max_three min_three max_four min_four   -- for this text's walks alone
set_option linter.unusedVariables false
set_option linter.unusedSimpArgs false
def item_Copy.f (a0_0 : Int) (a0_1 : ByteArray) (a0_2 : ByteArray) (a0_3 : Int) (a0_4 : Int) (a0_5 : Int) (a0_6 : Int) (a0_7 : Int) (a0_8 : Int) (a0_9 : ByteArray) (a0_10 : ByteArray) (a0_11 : Int) (a0_12 : Int) (l0_13 : List (S65)) (l0_14 : List Int) : Option (Int × ByteArray × ByteArray × Int × Int × Int × Int × Int × Int × ByteArray × ByteArray × Int × Int × (List (S65)) × List Int) := (api_Pair_119.f l0_13).bind fun t288 => ((slices_Clone_byte_byte.f l0_14).bind fun t291 => (some (a0_0, a0_1, a0_2, a0_3, a0_4, a0_5, a0_6, a0_7, a0_8, a0_9, a0_10, a0_11, a0_12, t288, t291)))
def item_Copy.T1 : Bool × List (List Nat × List Nat) := (true, [([], []), ([0], [0]), ([1], [1]), ([2], [2]), ([], []), ([4], [4]), ([5, 3], [5]), ([0, 1, 2, 3, 4, 5], []), ([7, 0, 1, 2, 3, 4, 5], [7]), ([8, 3, 6, 0, 1, 2, 3, 4, 5], [3, 8]), ([0, 1, 2, 3, 4, 5, 6, 7, 8, 9], []), ([10, 6, 9, 0, 1, 2, 3, 4, 5, 6, 7, 8, 9], [6, 10])])
def item_Copy.B1 : List Nat := [0, 1, 3, 7, 0, 16, 63, 63, 191, 511, 1023, 2047]
theorem item_Copy.tab1 : rtab .any (opsOf Tryz.f86 1) = item_Copy.T1 := by kernel_rfl
theorem item_Copy.bits1 : waitsOk item_Copy.T1.2 item_Copy.B1 = true := by kernel_rfl
set_option maxHeartbeats 8000000 in
set_option maxRecDepth 100000 in
theorem item_Copy.calls (a0_0 : Int) (a0_1 : ByteArray) (a0_2 : ByteArray) (a0_3 : Int) (a0_4 : Int) (a0_5 : Int) (a0_6 : Int) (a0_7 : Int) (a0_8 : Int) (a0_9 : ByteArray) (a0_10 : ByteArray) (a0_11 : Int) (a0_12 : Int) (A0_13 : Option Addr) (c0_13 : Nat) (l0_13 : List (S65)) (A0_14 : Option Addr) (c0_14 : Nat) (l0_14 : List Int) (r1 : Int) (r2 : ByteArray) (r3 : ByteArray) (r4 : Int) (r5 : Int) (r6 : Int) (r7 : Int) (r8 : Int) (r9 : Int) (r10 : ByteArray) (r11 : ByteArray) (r12 : Int) (r13 : Int) (r14 : List (S65)) (r15 : List Int) (w : World) (hr0_13 : Kd.C k65 w A0_13 l0_13.length l0_13) (hc0_13 : l0_13.length ≤ c0_13) (hr0_14 : Kd.C (Kd.int .u8) w A0_14 l0_14.length l0_14) (hc0_14 : l0_14.length ≤ c0_14) (h : item_Copy.f a0_0 a0_1 a0_2 a0_3 a0_4 a0_5 a0_6 a0_7 a0_8 a0_9 a0_10 a0_11 a0_12 l0_13 l0_14 = some (r1, r2, r3, r4, r5, r6, r7, r8, r9, r10, r11, r12, r13, r14, r15)) :
  Calls Tryz.prog 86 #[.agg #[.int .i64 a0_0, .string a0_1, .string a0_2, .int .i64 a0_3, .int .i64 a0_4, .int .i64 a0_5, .int .i64 a0_6, .int .i64 a0_7, .int .i64 a0_8, .string a0_9, .string a0_10, .int .i64 a0_11, .int .i64 a0_12, .slice A0_13 l0_13.length c0_13, .slice A0_14 l0_14.length c0_14]] w fun e w' => ∃ v13_ v14_ : Value, e = .returned (.agg #[.int .i64 r1, .string r2, .string r3, .int .i64 r4, .int .i64 r5, .int .i64 r6, .int .i64 r7, .int .i64 r8, .int .i64 r9, .string r10, .string r11, .int .i64 r12, .int .i64 r13, v13_, v14_]) ∧ Kd.R k65 65 w' w.heap.size (fun _ => True) v13_ r14 ∧ Kd.R (Kd.int .u8) 5 w' w.heap.size (fun _ => True) v14_ r15 ∧ Below w.heap.size w w' := by
 have hu29 := Tryz.underlying29
 have HR0_13 := Aside0.mk hr0_13
 have HC0_13 := Aside0.mk hc0_13
 clear hr0_13 hc0_13
 have HR0_14 := Aside0.mk hr0_14
 have HC0_14 := Aside0.mk hc0_14
 clear hr0_14 hc0_14
 have HB := Aside0.mk (Below.refl w.heap.size w)
 have H : ((api_Pair_119.f l0_13).bind fun t288 => ((slices_Clone_byte_byte.f l0_14).bind fun t291 => (some (a0_0, a0_1, a0_2, a0_3, a0_4, a0_5, a0_6, a0_7, a0_8, a0_9, a0_10, a0_11, a0_12, t288, t291)))) = some (r1, r2, r3, r4, r5, r6, r7, r8, r9, r10, r11, r12, r13, r14, r15) := h
 clear h
 obtain ⟨t288, A20, H⟩ := Zk H
 have A2 := Aside0.mk A20
 clear A20
 obtain ⟨t291, A30, H⟩ := Zk H
 have A3 := Aside0.mk A30
 clear A30
 simp only [Option.some.injEq, Prod.mk.injEq] at H
 obtain ⟨rfl, rfl, rfl, rfl, rfl, rfl, rfl, rfl, rfl, rfl, rfl, rfl, rfl, rfl, rfl⟩ := H
 go_enter Tryz.func86, Tryz.ntmps86
 try go_wp2_with (first | ((with_reducible refine gate_dst (N := 1) rfl ?_); refine Zbx (N := 1) (cs := #[.int .i64 a0_0, .string a0_1, .string a0_2, .int .i64 a0_3, .int .i64 a0_4, .int .i64 a0_5, .int .i64 a0_6, .int .i64 a0_7, .int .i64 a0_8, .string a0_9, .string a0_10, .int .i64 a0_11, .int .i64 a0_12, .slice A0_13 l0_13.length c0_13, .slice A0_14 l0_14.length c0_14]) (t := 29) HB ?_; intro gb286 w4 HB BK286 GE286; have GW286 := GE286) | ((with_reducible refine gate_dst (N := 2) rfl ?_); refine box_event ?hg (N := 2) ?hd (cs := #[.int .i64 0, .string (⟨#[]⟩ : ByteArray), .string (⟨#[]⟩ : ByteArray), .int .i64 0, .int .i64 0, .int .i64 0, .int .i64 0, .int .i64 0, .int .i64 0, .string (⟨#[]⟩ : ByteArray), .string (⟨#[]⟩ : ByteArray), .int .i64 0, .int .i64 0, .slice none 0 0, .slice none 0 0]) (t := 29) ?hr ?_; (case hd => rfl); (case hg => rfl); (case hr => first | (go_simp; done) | (go_simp; rfl)); intro gb287 hg w5 hbox hb; have n0_ := Zx BK286 hb; have n1_ := Zsg HB GE286 hb; have n2_ := Aside0.mk (hbox); have n3_ := Aside0.mk ((by rw [hg]; exact (below_size (Zhg HB GE286)) : w.heap.size ≤ gb287)); have n4_ := Aside0.mk ((by rw [hg]; exact (below_size (Zhg HB GE286)) : w.heap.size ≤ gb287)); have n5_ := Aside0.mk ((by rw [hg]; exact Nat.ne_of_lt (blk_lt (g := gb286) (o := .cells #[.int .i64 a0_0, .string a0_1, .string a0_2, .int .i64 a0_3, .int .i64 a0_4, .int .i64 a0_5, .int .i64 a0_6, .int .i64 a0_7, .int .i64 a0_8, .string a0_9, .string a0_10, .int .i64 a0_11, .int .i64 a0_12, .slice A0_13 l0_13.length c0_13, .slice A0_14 l0_14.length c0_14] 29 (0, 0)) (Zw BK286)) : gb286 ≠ gb287)); have n6_ := Aside0.mk ((by rw [hg]; exact Nat.ne_of_gt (blk_lt (g := gb286) (o := .cells #[.int .i64 a0_0, .string a0_1, .string a0_2, .int .i64 a0_3, .int .i64 a0_4, .int .i64 a0_5, .int .i64 a0_6, .int .i64 a0_7, .int .i64 a0_8, .string a0_9, .string a0_10, .int .i64 a0_11, .int .i64 a0_12, .slice A0_13 l0_13.length c0_13, .slice A0_14 l0_14.length c0_14] 29 (0, 0)) (Zw BK286)) : gb287 ≠ gb286)); clear BK286; clear HB; have BK286 := n0_; have HB := n1_; have BK287 := n2_; have GW287 := n3_; have GE287 := n4_; have NB286_287 := n5_; have NB287_286 := n6_; clear n0_ n1_ n2_ n3_ n4_ n5_ n6_; clear hb hbox hg))
 replace BK286 := Aside0.mk (blk_drew BK286.out)
 replace BK287 := Aside0.mk (blk_drew BK287.out)
 replace HB := Aside0.mk (below_drew1 HB.out)
 refine start_ (n := 12) (S := fun w' => w'.cell? ⟨gb286, 0, none⟩ = some (.int .i64 a0_0) ∧ w'.cell? ⟨gb286, 1, none⟩ = some (.string a0_1) ∧ w'.cell? ⟨gb286, 2, none⟩ = some (.string a0_2) ∧ w'.cell? ⟨gb286, 3, none⟩ = some (.int .i64 a0_3) ∧ w'.cell? ⟨gb286, 4, none⟩ = some (.int .i64 a0_4) ∧ w'.cell? ⟨gb286, 5, none⟩ = some (.int .i64 a0_5) ∧ w'.cell? ⟨gb286, 6, none⟩ = some (.int .i64 a0_6) ∧ w'.cell? ⟨gb286, 7, none⟩ = some (.int .i64 a0_7) ∧ w'.cell? ⟨gb286, 8, none⟩ = some (.int .i64 a0_8) ∧ w'.cell? ⟨gb286, 9, none⟩ = some (.string a0_9) ∧ w'.cell? ⟨gb286, 10, none⟩ = some (.string a0_10) ∧ w'.cell? ⟨gb286, 11, none⟩ = some (.int .i64 a0_11) ∧ w'.cell? ⟨gb286, 12, none⟩ = some (.int .i64 a0_12) ∧ w'.cell? ⟨gb286, 13, none⟩ = some (.slice A0_13 l0_13.length c0_13) ∧ w'.cell? ⟨gb286, 14, none⟩ = some (.slice A0_14 l0_14.length c0_14)) (ds := [9, 11]) #[false, false, false, false, false, false, false, false, false, false, false, false] (by kernel_rfl) rfl rfl ⟨(blk_cell BK286.out 0).trans rfl, (blk_cell BK286.out 1).trans rfl, (blk_cell BK286.out 2).trans rfl, (blk_cell BK286.out 3).trans rfl, (blk_cell BK286.out 4).trans rfl, (blk_cell BK286.out 5).trans rfl, (blk_cell BK286.out 6).trans rfl, (blk_cell BK286.out 7).trans rfl, (blk_cell BK286.out 8).trans rfl, (blk_cell BK286.out 9).trans rfl, (blk_cell BK286.out 10).trans rfl, (blk_cell BK286.out 11).trans rfl, (blk_cell BK286.out 12).trans rfl, (blk_cell BK286.out 13).trans rfl, (blk_cell BK286.out 14).trans rfl⟩ (fun hHeld => ?_); refine with_tabW item_Copy.tab1 item_Copy.bits1 (fun HT_ HW_ => ?_)
 generalize w5.drew = w6 at BK286 BK287 HB hHeld ⊢
 refine Zp 0 3 (Zb 12 1) HT_ ?_
 refine Zp 1 4 (Zb 12 3) HT_ ?_
 refine Zp 4 7 (Zb 12 19) HT_ ?_
 refine Zt 2 5 (Zb 12 23) HT_ HW_ hHeld ?_
 refine Zt 5 8 (Zb 12 55) HT_ HW_ hHeld ?_
 refine Zo 3 6 (Zb 12 63) HT_ fun K hK => ?_
 refine Zg Tryz.func119 #[.slice A0_13 l0_13.length c0_13] ?_
 with_reducible refine (api_Pair_119.calls _ _ l0_13 t288 _ ?side1 ?side2 A2.out).mono ?_
 (case side1 => repeat (first | exact (Kd.C_below HR0_13.out HB.out) | (with_reducible refine Kd.C_alloc ?_ _) | (with_reducible refine Kd.C_drewN ?_ _) | (with_reducible refine Kd.C_drew ?_)))
 (case side2 => exact HC0_13.out)
 rintro e w7 ⟨v289, rfl, ho0, hb⟩
 refine ⟨_, rfl, ?_⟩
 have HO290 := Aside0.mk (Kd.R_lower ho0 (below_size (by repeat (first | (with_reducible first | exact HB.out | apply below_alloc | apply pw_below_drewN | apply below_drew1 | refine below_set ?_ GE286.out | refine below_set ?_ GE287.out) | exact HB.out))))
 replace BK286 := Zx BK286 hb
 replace BK287 := Zx BK287 hb
 replace HB := Aside0.mk (below_step (by repeat (first | (with_reducible first | exact HB.out | apply below_alloc | apply pw_below_drewN | apply below_drew1 | refine below_set ?_ GE286.out | refine below_set ?_ GE287.out) | exact HB.out)) hb)
 try clear hb
 (try clear ho0)
 refine hK.out _ _ ⟨(blk_cell BK286.out 0).trans rfl, (blk_cell BK286.out 1).trans rfl, (blk_cell BK286.out 2).trans rfl, (blk_cell BK286.out 3).trans rfl, (blk_cell BK286.out 4).trans rfl, (blk_cell BK286.out 5).trans rfl, (blk_cell BK286.out 6).trans rfl, (blk_cell BK286.out 7).trans rfl, (blk_cell BK286.out 8).trans rfl, (blk_cell BK286.out 9).trans rfl, (blk_cell BK286.out 10).trans rfl, (blk_cell BK286.out 11).trans rfl, (blk_cell BK286.out 12).trans rfl, (blk_cell BK286.out 13).trans rfl, (blk_cell BK286.out 14).trans rfl⟩ (fun hHeld => ?_)
 clear hK K
 refine Zn ?_
 refine Zp 7 10 (Zb 12 191) HT_ ?_
 refine Zp 8 11 (Zb 12 447) HT_ ?_
 refine Zo 6 9 (Zb 12 511) HT_ fun K hK => ?_
 refine Zg Tryz.func120 #[.slice A0_14 l0_14.length c0_14] ?_
 with_reducible refine (slices_Clone_byte_byte.calls _ _ l0_14 t291 _ ?side1 ?side2 A3.out).mono ?_
 (case side1 => repeat (first | exact (Kd.C_below HR0_14.out HB.out) | (with_reducible refine Kd.C_alloc ?_ _) | (with_reducible refine Kd.C_drewN ?_ _) | (with_reducible refine Kd.C_drew ?_)))
 (case side2 => exact HC0_14.out)
 rintro e w8 ⟨v292, rfl, ho0, hb⟩
 refine ⟨_, rfl, ?_⟩
 replace HO290 := Aside0.mk (Kd.R_below (by (with_reducible repeat (first | apply Kd.R_alloc | apply Kd.R_drewN | apply Kd.R_drew)); exact HO290.out) hb)
 have HO293 := Aside0.mk (Kd.R_lower ho0 (below_size (by repeat (first | (with_reducible first | exact HB.out | apply below_alloc | apply pw_below_drewN | apply below_drew1 | refine below_set ?_ GE286.out | refine below_set ?_ GE287.out) | exact HB.out))))
 replace BK286 := Zx BK286 hb
 replace BK287 := Zx BK287 hb
 replace HB := Aside0.mk (below_step (by repeat (first | (with_reducible first | exact HB.out | apply below_alloc | apply pw_below_drewN | apply below_drew1 | refine below_set ?_ GE286.out | refine below_set ?_ GE287.out) | exact HB.out)) hb)
 try clear hb
 (try clear ho0)
 obtain ⟨Ao9, co9, eo9⟩ := Kd.R_slice HO290.out
 (first | subst eo9 | (injection eo9 with f1_ f2_ f3_; have f4_ := f1_.symm; have f5_ := f3_.symm; clear f1_ f2_ f3_; subst f4_; subst f5_))
 obtain ⟨Ao11, co11, eo11⟩ := Kd.R_slice HO293.out
 (first | subst eo11 | (injection eo11 with f1_ f2_ f3_; have f4_ := f1_.symm; have f5_ := f3_.symm; clear f1_ f2_ f3_; subst f4_; subst f5_))
 refine hK.out _ _ ⟨(blk_cell BK286.out 0).trans rfl, (blk_cell BK286.out 1).trans rfl, (blk_cell BK286.out 2).trans rfl, (blk_cell BK286.out 3).trans rfl, (blk_cell BK286.out 4).trans rfl, (blk_cell BK286.out 5).trans rfl, (blk_cell BK286.out 6).trans rfl, (blk_cell BK286.out 7).trans rfl, (blk_cell BK286.out 8).trans rfl, (blk_cell BK286.out 9).trans rfl, (blk_cell BK286.out 10).trans rfl, (blk_cell BK286.out 11).trans rfl, (blk_cell BK286.out 12).trans rfl, (blk_cell BK286.out 13).trans rfl, (blk_cell BK286.out 14).trans rfl⟩ (fun hHeld => ?_)
 clear hK K
 refine Zn ?_
 refine last_ (i := 9) (N := none) #[true, true, true, true, true, true, true, true, true, true, false, false] rfl rfl (one_of HT_.out (by kernel_rfl)) (by decide) (fun K hK => ?_)
 have hs10 : w8.cell? ⟨gb286, 13, none⟩ = some (.slice A0_13 l0_13.length c0_13) := (blk_cell BK286.out 13).trans rfl
 have hfs10 := blk_frozen BK286.out 13
 have hns10_1 := NB287_286.out
 have hms10_1 := NB286_287.out
 refine skip_ (w1 := ?_) (by rfl) rfl ?_ ?_
 rotate_left
 ·go_simp
  rfl
 refine hK.out _ _ ?_
 clear hK K
 refine Zp 10 12 (Zb 12 2047) HT_ ?_
 refine last_ (i := 11) (N := none) #[true, true, true, true, true, true, true, true, true, true, true, true] rfl rfl (one_of HT_.out (by kernel_rfl)) (by decide) (fun K hK => ?_)
 have hs12 : w8.cell? ⟨gb286, 14, none⟩ = some (.slice A0_14 l0_14.length c0_14) := (blk_cell BK286.out 14).trans rfl
 have hfs12 := blk_frozen BK286.out 14
 have hns12_1 := NB287_286.out
 have hms12_1 := NB286_287.out
 refine skip_ (w1 := ?_) (by rfl) rfl ?_ ?_
 rotate_left
 ·go_simp
  rfl
 refine hK.out _ _ ?_
 clear hK K
 refine Zq HT_ ?_
 have hnb13 := NB286_287.out
 have hnc13 := NB287_286.out
 have hcz14_0 : w8.cell? ⟨gb286, 0, none⟩ = some (.int .i64 a0_0) := (blk_cell BK286.out 0).trans rfl
 have hcz14_1 : w8.cell? ⟨gb286, 1, none⟩ = some (.string a0_1) := (blk_cell BK286.out 1).trans rfl
 have hcz14_2 : w8.cell? ⟨gb286, 2, none⟩ = some (.string a0_2) := (blk_cell BK286.out 2).trans rfl
 have hcz14_3 : w8.cell? ⟨gb286, 3, none⟩ = some (.int .i64 a0_3) := (blk_cell BK286.out 3).trans rfl
 have hcz14_4 : w8.cell? ⟨gb286, 4, none⟩ = some (.int .i64 a0_4) := (blk_cell BK286.out 4).trans rfl
 have hcz14_5 : w8.cell? ⟨gb286, 5, none⟩ = some (.int .i64 a0_5) := (blk_cell BK286.out 5).trans rfl
 have hcz14_6 : w8.cell? ⟨gb286, 6, none⟩ = some (.int .i64 a0_6) := (blk_cell BK286.out 6).trans rfl
 have hcz14_7 : w8.cell? ⟨gb286, 7, none⟩ = some (.int .i64 a0_7) := (blk_cell BK286.out 7).trans rfl
 have hcz14_8 : w8.cell? ⟨gb286, 8, none⟩ = some (.int .i64 a0_8) := (blk_cell BK286.out 8).trans rfl
 have hcz14_9 : w8.cell? ⟨gb286, 9, none⟩ = some (.string a0_9) := (blk_cell BK286.out 9).trans rfl
 have hcz14_10 : w8.cell? ⟨gb286, 10, none⟩ = some (.string a0_10) := (blk_cell BK286.out 10).trans rfl
 have hcz14_11 : w8.cell? ⟨gb286, 11, none⟩ = some (.int .i64 a0_11) := (blk_cell BK286.out 11).trans rfl
 have hcz14_12 : w8.cell? ⟨gb286, 12, none⟩ = some (.int .i64 a0_12) := (blk_cell BK286.out 12).trans rfl
 have hcz14_13 : w8.cell? ⟨gb286, 13, none⟩ = some (.slice A0_13 l0_13.length c0_13) := (blk_cell BK286.out 13).trans rfl
 have hcz14_14 : w8.cell? ⟨gb286, 14, none⟩ = some (.slice A0_14 l0_14.length c0_14) := (blk_cell BK286.out 14).trans rfl
 have hfz14 := blk_frozen BK286.out
 have hcz15_0 : w8.cell? ⟨gb287, 0, none⟩ = some (.int .i64 0) := (blk_cell BK287.out 0).trans rfl
 have hcz15_1 : w8.cell? ⟨gb287, 1, none⟩ = some (.string (⟨#[]⟩ : ByteArray)) := (blk_cell BK287.out 1).trans rfl
 have hcz15_2 : w8.cell? ⟨gb287, 2, none⟩ = some (.string (⟨#[]⟩ : ByteArray)) := (blk_cell BK287.out 2).trans rfl
 have hcz15_3 : w8.cell? ⟨gb287, 3, none⟩ = some (.int .i64 0) := (blk_cell BK287.out 3).trans rfl
 have hcz15_4 : w8.cell? ⟨gb287, 4, none⟩ = some (.int .i64 0) := (blk_cell BK287.out 4).trans rfl
 have hcz15_5 : w8.cell? ⟨gb287, 5, none⟩ = some (.int .i64 0) := (blk_cell BK287.out 5).trans rfl
 have hcz15_6 : w8.cell? ⟨gb287, 6, none⟩ = some (.int .i64 0) := (blk_cell BK287.out 6).trans rfl
 have hcz15_7 : w8.cell? ⟨gb287, 7, none⟩ = some (.int .i64 0) := (blk_cell BK287.out 7).trans rfl
 have hcz15_8 : w8.cell? ⟨gb287, 8, none⟩ = some (.int .i64 0) := (blk_cell BK287.out 8).trans rfl
 have hcz15_9 : w8.cell? ⟨gb287, 9, none⟩ = some (.string (⟨#[]⟩ : ByteArray)) := (blk_cell BK287.out 9).trans rfl
 have hcz15_10 : w8.cell? ⟨gb287, 10, none⟩ = some (.string (⟨#[]⟩ : ByteArray)) := (blk_cell BK287.out 10).trans rfl
 have hcz15_11 : w8.cell? ⟨gb287, 11, none⟩ = some (.int .i64 0) := (blk_cell BK287.out 11).trans rfl
 have hcz15_12 : w8.cell? ⟨gb287, 12, none⟩ = some (.int .i64 0) := (blk_cell BK287.out 12).trans rfl
 have hcz15_13 : w8.cell? ⟨gb287, 13, none⟩ = some (.slice none 0 0) := (blk_cell BK287.out 13).trans rfl
 have hcz15_14 : w8.cell? ⟨gb287, 14, none⟩ = some (.slice none 0 0) := (blk_cell BK287.out 14).trans rfl
 have hfz15 := blk_frozen BK287.out
 try go_wp2
 refine bodyPost_ret (results_cell_row rfl _ _ gb287 29 #[.int .i64 a0_0, .string a0_1, .string a0_2, .int .i64 a0_3, .int .i64 a0_4, .int .i64 a0_5, .int .i64 a0_6, .int .i64 a0_7, .int .i64 a0_8, .string a0_9, .string a0_10, .int .i64 a0_11, .int .i64 a0_12, .slice Ao9 t288.length co9, .slice Ao11 t291.length co11] (0, 0) _ rfl (by (with_reducible repeat (first | refine blk_drewN ?_ _ | refine blk_drew ?_ | refine blk_alloc ?_ _)); refine blk_put (cs := #[.int .i64 a0_0, .string a0_1, .string a0_2, .int .i64 a0_3, .int .i64 a0_4, .int .i64 a0_5, .int .i64 a0_6, .int .i64 a0_7, .int .i64 a0_8, .string a0_9, .string a0_10, .int .i64 a0_11, .int .i64 a0_12, .slice Ao9 t288.length co9, .slice none 0 0]) ?_ 14 _ rfl; (with_reducible repeat (first | refine blk_drewN ?_ _ | refine blk_drew ?_ | refine blk_alloc ?_ _)); refine blk_put (cs := #[.int .i64 a0_0, .string a0_1, .string a0_2, .int .i64 a0_3, .int .i64 a0_4, .int .i64 a0_5, .int .i64 a0_6, .int .i64 a0_7, .int .i64 a0_8, .string a0_9, .string a0_10, .int .i64 a0_11, .int .i64 a0_12, .slice none 0 0, .slice none 0 0]) ?_ 13 _ rfl; (with_reducible repeat (first | refine blk_drewN ?_ _ | refine blk_drew ?_ | refine blk_alloc ?_ _)); refine blk_put (cs := #[.int .i64 a0_0, .string a0_1, .string a0_2, .int .i64 a0_3, .int .i64 a0_4, .int .i64 a0_5, .int .i64 a0_6, .int .i64 a0_7, .int .i64 a0_8, .string a0_9, .string a0_10, .int .i64 a0_11, .int .i64 0, .slice none 0 0, .slice none 0 0]) ?_ 12 _ rfl; (with_reducible repeat (first | refine blk_drewN ?_ _ | refine blk_drew ?_ | refine blk_alloc ?_ _)); refine blk_put (cs := #[.int .i64 a0_0, .string a0_1, .string a0_2, .int .i64 a0_3, .int .i64 a0_4, .int .i64 a0_5, .int .i64 a0_6, .int .i64 a0_7, .int .i64 a0_8, .string a0_9, .string a0_10, .int .i64 0, .int .i64 0, .slice none 0 0, .slice none 0 0]) ?_ 11 _ rfl; (with_reducible repeat (first | refine blk_drewN ?_ _ | refine blk_drew ?_ | refine blk_alloc ?_ _)); refine blk_put (cs := #[.int .i64 a0_0, .string a0_1, .string a0_2, .int .i64 a0_3, .int .i64 a0_4, .int .i64 a0_5, .int .i64 a0_6, .int .i64 a0_7, .int .i64 a0_8, .string a0_9, .string (⟨#[]⟩ : ByteArray), .int .i64 0, .int .i64 0, .slice none 0 0, .slice none 0 0]) ?_ 10 _ rfl; (with_reducible repeat (first | refine blk_drewN ?_ _ | refine blk_drew ?_ | refine blk_alloc ?_ _)); refine blk_put (cs := #[.int .i64 a0_0, .string a0_1, .string a0_2, .int .i64 a0_3, .int .i64 a0_4, .int .i64 a0_5, .int .i64 a0_6, .int .i64 a0_7, .int .i64 a0_8, .string (⟨#[]⟩ : ByteArray), .string (⟨#[]⟩ : ByteArray), .int .i64 0, .int .i64 0, .slice none 0 0, .slice none 0 0]) ?_ 9 _ rfl; (with_reducible repeat (first | refine blk_drewN ?_ _ | refine blk_drew ?_ | refine blk_alloc ?_ _)); refine blk_put (cs := #[.int .i64 a0_0, .string a0_1, .string a0_2, .int .i64 a0_3, .int .i64 a0_4, .int .i64 a0_5, .int .i64 a0_6, .int .i64 a0_7, .int .i64 0, .string (⟨#[]⟩ : ByteArray), .string (⟨#[]⟩ : ByteArray), .int .i64 0, .int .i64 0, .slice none 0 0, .slice none 0 0]) ?_ 8 _ rfl; (with_reducible repeat (first | refine blk_drewN ?_ _ | refine blk_drew ?_ | refine blk_alloc ?_ _)); refine blk_put (cs := #[.int .i64 a0_0, .string a0_1, .string a0_2, .int .i64 a0_3, .int .i64 a0_4, .int .i64 a0_5, .int .i64 a0_6, .int .i64 0, .int .i64 0, .string (⟨#[]⟩ : ByteArray), .string (⟨#[]⟩ : ByteArray), .int .i64 0, .int .i64 0, .slice none 0 0, .slice none 0 0]) ?_ 7 _ rfl; (with_reducible repeat (first | refine blk_drewN ?_ _ | refine blk_drew ?_ | refine blk_alloc ?_ _)); refine blk_put (cs := #[.int .i64 a0_0, .string a0_1, .string a0_2, .int .i64 a0_3, .int .i64 a0_4, .int .i64 a0_5, .int .i64 0, .int .i64 0, .int .i64 0, .string (⟨#[]⟩ : ByteArray), .string (⟨#[]⟩ : ByteArray), .int .i64 0, .int .i64 0, .slice none 0 0, .slice none 0 0]) ?_ 6 _ rfl; (with_reducible repeat (first | refine blk_drewN ?_ _ | refine blk_drew ?_ | refine blk_alloc ?_ _)); refine blk_put (cs := #[.int .i64 a0_0, .string a0_1, .string a0_2, .int .i64 a0_3, .int .i64 a0_4, .int .i64 0, .int .i64 0, .int .i64 0, .int .i64 0, .string (⟨#[]⟩ : ByteArray), .string (⟨#[]⟩ : ByteArray), .int .i64 0, .int .i64 0, .slice none 0 0, .slice none 0 0]) ?_ 5 _ rfl; (with_reducible repeat (first | refine blk_drewN ?_ _ | refine blk_drew ?_ | refine blk_alloc ?_ _)); refine blk_put (cs := #[.int .i64 a0_0, .string a0_1, .string a0_2, .int .i64 a0_3, .int .i64 0, .int .i64 0, .int .i64 0, .int .i64 0, .int .i64 0, .string (⟨#[]⟩ : ByteArray), .string (⟨#[]⟩ : ByteArray), .int .i64 0, .int .i64 0, .slice none 0 0, .slice none 0 0]) ?_ 4 _ rfl; (with_reducible repeat (first | refine blk_drewN ?_ _ | refine blk_drew ?_ | refine blk_alloc ?_ _)); refine blk_put (cs := #[.int .i64 a0_0, .string a0_1, .string a0_2, .int .i64 0, .int .i64 0, .int .i64 0, .int .i64 0, .int .i64 0, .int .i64 0, .string (⟨#[]⟩ : ByteArray), .string (⟨#[]⟩ : ByteArray), .int .i64 0, .int .i64 0, .slice none 0 0, .slice none 0 0]) ?_ 3 _ rfl; (with_reducible repeat (first | refine blk_drewN ?_ _ | refine blk_drew ?_ | refine blk_alloc ?_ _)); refine blk_put (cs := #[.int .i64 a0_0, .string a0_1, .string (⟨#[]⟩ : ByteArray), .int .i64 0, .int .i64 0, .int .i64 0, .int .i64 0, .int .i64 0, .int .i64 0, .string (⟨#[]⟩ : ByteArray), .string (⟨#[]⟩ : ByteArray), .int .i64 0, .int .i64 0, .slice none 0 0, .slice none 0 0]) ?_ 2 _ rfl; (with_reducible repeat (first | refine blk_drewN ?_ _ | refine blk_drew ?_ | refine blk_alloc ?_ _)); refine blk_put (cs := #[.int .i64 a0_0, .string (⟨#[]⟩ : ByteArray), .string (⟨#[]⟩ : ByteArray), .int .i64 0, .int .i64 0, .int .i64 0, .int .i64 0, .int .i64 0, .int .i64 0, .string (⟨#[]⟩ : ByteArray), .string (⟨#[]⟩ : ByteArray), .int .i64 0, .int .i64 0, .slice none 0 0, .slice none 0 0]) ?_ 1 _ rfl; (with_reducible repeat (first | refine blk_drewN ?_ _ | refine blk_drew ?_ | refine blk_alloc ?_ _)); refine blk_put (cs := #[.int .i64 0, .string (⟨#[]⟩ : ByteArray), .string (⟨#[]⟩ : ByteArray), .int .i64 0, .int .i64 0, .int .i64 0, .int .i64 0, .int .i64 0, .int .i64 0, .string (⟨#[]⟩ : ByteArray), .string (⟨#[]⟩ : ByteArray), .int .i64 0, .int .i64 0, .slice none 0 0, .slice none 0 0]) ?_ 0 _ rfl; (with_reducible repeat (first | refine blk_drewN ?_ _ | refine blk_drew ?_ | refine blk_alloc ?_ _)); refine blk_far ?_ NB287_286.out _; (with_reducible repeat (first | refine blk_drewN ?_ _ | refine blk_drew ?_ | refine blk_alloc ?_ _)); refine blk_far ?_ NB287_286.out _; (with_reducible repeat (first | refine blk_drewN ?_ _ | refine blk_drew ?_ | refine blk_alloc ?_ _)); exact BK287.out) Tryz.underlying29 rfl (by kernel_rfl)) rfl ?_
 exact ⟨_, _, Ze, by (with_reducible repeat (first | apply Kd.R_alloc | apply Kd.R_drewN | apply Kd.R_drew)); exact Kd.R_mono (Kd.R_far (p := ⟨gb287, 14, none⟩) (Kd.R_far (p := ⟨gb287, 13, none⟩) (Kd.R_far (p := ⟨gb287, 12, none⟩) (Kd.R_far (p := ⟨gb287, 11, none⟩) (Kd.R_far (p := ⟨gb287, 10, none⟩) (Kd.R_far (p := ⟨gb287, 9, none⟩) (Kd.R_far (p := ⟨gb287, 8, none⟩) (Kd.R_far (p := ⟨gb287, 7, none⟩) (Kd.R_far (p := ⟨gb287, 6, none⟩) (Kd.R_far (p := ⟨gb287, 5, none⟩) (Kd.R_far (p := ⟨gb287, 4, none⟩) (Kd.R_far (p := ⟨gb287, 3, none⟩) (Kd.R_far (p := ⟨gb287, 2, none⟩) (Kd.R_far (p := ⟨gb287, 1, none⟩) (Kd.R_far (p := ⟨gb287, 0, none⟩) (Kd.R_far (p := ⟨gb286, 14, none⟩) (Kd.R_far (p := ⟨gb286, 13, none⟩) (Kd.R_types (Kd.R_types HO290.out BK286.out (by decide)) BK287.out (by decide)) (fun _ hk => hk.1.2) (.slice Ao9 t288.length co9)) (fun _ hk => hk.1.2) (.slice Ao11 t291.length co11)) (fun _ hk => hk.2) (.int .i64 a0_0)) (fun _ hk => hk.2) (.string a0_1)) (fun _ hk => hk.2) (.string a0_2)) (fun _ hk => hk.2) (.int .i64 a0_3)) (fun _ hk => hk.2) (.int .i64 a0_4)) (fun _ hk => hk.2) (.int .i64 a0_5)) (fun _ hk => hk.2) (.int .i64 a0_6)) (fun _ hk => hk.2) (.int .i64 a0_7)) (fun _ hk => hk.2) (.int .i64 a0_8)) (fun _ hk => hk.2) (.string a0_9)) (fun _ hk => hk.2) (.string a0_10)) (fun _ hk => hk.2) (.int .i64 a0_11)) (fun _ hk => hk.2) (.int .i64 a0_12)) (fun _ hk => hk.2) (.slice Ao9 t288.length co9)) (fun _ hk => hk.2) (.slice Ao11 t291.length co11)) (fun _ hk => trivial), by (with_reducible repeat (first | apply Kd.R_alloc | apply Kd.R_drewN | apply Kd.R_drew)); exact Kd.R_mono (Kd.R_far (p := ⟨gb287, 14, none⟩) (Kd.R_far (p := ⟨gb287, 13, none⟩) (Kd.R_far (p := ⟨gb287, 12, none⟩) (Kd.R_far (p := ⟨gb287, 11, none⟩) (Kd.R_far (p := ⟨gb287, 10, none⟩) (Kd.R_far (p := ⟨gb287, 9, none⟩) (Kd.R_far (p := ⟨gb287, 8, none⟩) (Kd.R_far (p := ⟨gb287, 7, none⟩) (Kd.R_far (p := ⟨gb287, 6, none⟩) (Kd.R_far (p := ⟨gb287, 5, none⟩) (Kd.R_far (p := ⟨gb287, 4, none⟩) (Kd.R_far (p := ⟨gb287, 3, none⟩) (Kd.R_far (p := ⟨gb287, 2, none⟩) (Kd.R_far (p := ⟨gb287, 1, none⟩) (Kd.R_far (p := ⟨gb287, 0, none⟩) (Kd.R_far (p := ⟨gb286, 14, none⟩) (Kd.R_far (p := ⟨gb286, 13, none⟩) (Kd.R_types (Kd.R_types HO293.out BK286.out (by decide)) BK287.out (by decide)) (fun _ hk => hk.1.2) (.slice Ao9 t288.length co9)) (fun _ hk => hk.1.2) (.slice Ao11 t291.length co11)) (fun _ hk => hk.2) (.int .i64 a0_0)) (fun _ hk => hk.2) (.string a0_1)) (fun _ hk => hk.2) (.string a0_2)) (fun _ hk => hk.2) (.int .i64 a0_3)) (fun _ hk => hk.2) (.int .i64 a0_4)) (fun _ hk => hk.2) (.int .i64 a0_5)) (fun _ hk => hk.2) (.int .i64 a0_6)) (fun _ hk => hk.2) (.int .i64 a0_7)) (fun _ hk => hk.2) (.int .i64 a0_8)) (fun _ hk => hk.2) (.string a0_9)) (fun _ hk => hk.2) (.string a0_10)) (fun _ hk => hk.2) (.int .i64 a0_11)) (fun _ hk => hk.2) (.int .i64 a0_12)) (fun _ hk => hk.2) (.slice Ao9 t288.length co9)) (fun _ hk => hk.2) (.slice Ao11 t291.length co11)) (fun _ hk => trivial), by repeat (first | (with_reducible first | exact HB.out | apply below_alloc | apply pw_below_drewN | apply below_drew1 | refine below_set ?_ GE286.out | refine below_set ?_ GE287.out) | exact HB.out)⟩
end Go.Proofs.YtejdmofljifkbaaGreatDoor.P
namespace Go.Proofs.YtejdmofljifkbaaGreatDoor.P
open Go.RowKit Go.Shelf Go.Proofs.YtejdmofljifkbaaGreatDoorW.PrintWords Go.Proofs.YtejdmofljifkbaaGreatDoorW.PrintLast Go.Proofs.YtejdmofljifkbaaGreatDoorW.PrintMore
set_option linter.unusedVariables false
attribute [local go_sem] Oper.semAt_some
set_option maxRecDepth 100000 in
set_option maxHeartbeats 6400000 in
theorem one_no (all : Bool) (A : Option Addr) (cap : Nat) (rs : List Ru) (st : Int) (px : ByteArray) (w : World) (hr : Kd.C k45 w A rs.length rs) (hlen : rs.length ≤ 1000000) (hz : ∀ r ∈ rs, r.f1.size ≤ 1000)
  (a0 : Int) (a1 : ByteArray) (a2 : ByteArray) (a3 : Int) (a4 : Int) (a5 : Int) (a6 : Int) (a7 : Int) (a8 : Int) (a9 : ByteArray) (a10 : ByteArray) (a11 : Int) (a12 : Int) (A13 : Option Addr) (c13 : Nat) (l13 : List S65) (A14 : Option Addr) (c14 : Nat) (l14 : List Int) (hnm : a1.size ≤ 1000000) (hT : takenL all rs a1 = false) :
  Calls Tryz.prog 42 #[.agg #[.bool all, .slice A rs.length cap, .int .i64 st, .string px], .agg #[.int .i64 a0, .string a1, .string a2, .int .i64 a3, .int .i64 a4, .int .i64 a5, .int .i64 a6, .int .i64 a7, .int .i64 a8, .string a9, .string a10, .int .i64 a11, .int .i64 a12, .slice A13 l13.length c13, .slice A14 l14.length c14]] w fun e w' => e = .returned (.tuple #[.agg #[.int .i64 a0, .string a1, .string a2, .int .i64 a3, .int .i64 a4, .int .i64 a5, .int .i64 a6, .int .i64 a7, .int .i64 a8, .string a9, .string a10, .int .i64 a11, .int .i64 a12, .slice A13 l13.length c13, .slice A14 l14.length c14], .bool false]) ∧ Below w.heap.size w w' := by
 have hu29 := Tryz.underlying29
 have hu26 := Tryz.underlying26
 have HR := Lib.hid hr
 have HZ := Lib.hid hz
 have HT := Lib.hid hT
 clear hr hz hT
 have HB0 := Lib.hid ((((Below.refl w.heap.size w).alloc (Nat.le_refl _) (.cells #[.bool all, .slice A rs.length cap, .int .i64 st, .string px] 43)).alloc (by simp) (.cells #[.int .i64 a0, .string a1, .string a2, .int .i64 a3, .int .i64 a4, .int .i64 a5, .int .i64 a6, .int .i64 a7, .int .i64 a8, .string a9, .string a10, .int .i64 a11, .int .i64 a12, .slice A13 l13.length c13, .slice A14 l14.length c14] 29)).alloc (by first | (simp; done) | (simp; omega)) (.cells #[.int .i64 0, .string ⟨#[]⟩, .string ⟨#[]⟩, .int .i64 0, .int .i64 0, .int .i64 0, .int .i64 0, .int .i64 0, .int .i64 0, .string ⟨#[]⟩, .string ⟨#[]⟩, .int .i64 0, .int .i64 0, .slice none 0 0, .slice none 0 0] 29))
 go_enter Tryz.func42, Tryz.ntmps42
 go_wp2_with (go_at_call 46; refine (taken_calls all A cap rs st px a1 _ (Kd.C_below HR.out HB0.out) hlen HZ.out hnm).mono ?_; rw [HT.out]; rintro e w' ⟨rfl, hb⟩; have HB1 := Lib.hid (below_step HB0.out hb); have bI : w'.heap[w.heap.size + 1]? = some (.cells #[.int .i64 a0, .string a1, .string a2, .int .i64 a3, .int .i64 a4, .int .i64 a5, .int .i64 a6, .int .i64 a7, .int .i64 a8, .string a9, .string a10, .int .i64 a11, .int .i64 a12, .slice A13 l13.length c13, .slice A14 l14.length c14] 29 (0, 0)) := (hb.block _ (by simp)).trans ((Below.heap_alloc _ _ _ (by simp)).trans (by have := heap_alloc_new (w.alloc (.cells #[.bool all, .slice A rs.length cap, .int .i64 st, .string px] 43)) (.cells #[.int .i64 a0, .string a1, .string a2, .int .i64 a3, .int .i64 a4, .int .i64 a5, .int .i64 a6, .int .i64 a7, .int .i64 a8, .string a9, .string a10, .int .i64 a11, .int .i64 a12, .slice A13 l13.length c13, .slice A14 l14.length c14] 29); rwa [World.size_alloc] at this)); have bZ : w'.heap[w.heap.size + 1 + 1]? = some (.cells #[.int .i64 0, .string ⟨#[]⟩, .string ⟨#[]⟩, .int .i64 0, .int .i64 0, .int .i64 0, .int .i64 0, .int .i64 0, .int .i64 0, .string ⟨#[]⟩, .string ⟨#[]⟩, .int .i64 0, .int .i64 0, .slice none 0 0, .slice none 0 0] 29 (0, 0)) := (hb.block _ (by simp)).trans (by have := heap_alloc_new ((w.alloc (.cells #[.bool all, .slice A rs.length cap, .int .i64 st, .string px] 43)).alloc (.cells #[.int .i64 a0, .string a1, .string a2, .int .i64 a3, .int .i64 a4, .int .i64 a5, .int .i64 a6, .int .i64 a7, .int .i64 a8, .string a9, .string a10, .int .i64 a11, .int .i64 a12, .slice A13 l13.length c13, .slice A14 l14.length c14] 29)) (.cells #[.int .i64 0, .string ⟨#[]⟩, .string ⟨#[]⟩, .int .i64 0, .int .i64 0, .int .i64 0, .int .i64 0, .int .i64 0, .int .i64 0, .string ⟨#[]⟩, .string ⟨#[]⟩, .int .i64 0, .int .i64 0, .slice none 0 0, .slice none 0 0] 29); rwa [World.size_alloc, World.size_alloc] at this); have BZ := Lib.hid bZ; have i0 : w'.cell? ⟨w.heap.size + 1, 0, none⟩ = some (.int .i64 a0) := (cell_of_row _ _ 0 _ _ _ bI).trans rfl; have i1 : w'.cell? ⟨w.heap.size + 1, 1, none⟩ = some (.string a1) := (cell_of_row _ _ 1 _ _ _ bI).trans rfl; have i2 : w'.cell? ⟨w.heap.size + 1, 2, none⟩ = some (.string a2) := (cell_of_row _ _ 2 _ _ _ bI).trans rfl; have i3 : w'.cell? ⟨w.heap.size + 1, 3, none⟩ = some (.int .i64 a3) := (cell_of_row _ _ 3 _ _ _ bI).trans rfl; have i4 : w'.cell? ⟨w.heap.size + 1, 4, none⟩ = some (.int .i64 a4) := (cell_of_row _ _ 4 _ _ _ bI).trans rfl; have i5 : w'.cell? ⟨w.heap.size + 1, 5, none⟩ = some (.int .i64 a5) := (cell_of_row _ _ 5 _ _ _ bI).trans rfl; have i6 : w'.cell? ⟨w.heap.size + 1, 6, none⟩ = some (.int .i64 a6) := (cell_of_row _ _ 6 _ _ _ bI).trans rfl; have i7 : w'.cell? ⟨w.heap.size + 1, 7, none⟩ = some (.int .i64 a7) := (cell_of_row _ _ 7 _ _ _ bI).trans rfl; have i8 : w'.cell? ⟨w.heap.size + 1, 8, none⟩ = some (.int .i64 a8) := (cell_of_row _ _ 8 _ _ _ bI).trans rfl; have i9 : w'.cell? ⟨w.heap.size + 1, 9, none⟩ = some (.string a9) := (cell_of_row _ _ 9 _ _ _ bI).trans rfl; have i10 : w'.cell? ⟨w.heap.size + 1, 10, none⟩ = some (.string a10) := (cell_of_row _ _ 10 _ _ _ bI).trans rfl; have i11 : w'.cell? ⟨w.heap.size + 1, 11, none⟩ = some (.int .i64 a11) := (cell_of_row _ _ 11 _ _ _ bI).trans rfl; have i12 : w'.cell? ⟨w.heap.size + 1, 12, none⟩ = some (.int .i64 a12) := (cell_of_row _ _ 12 _ _ _ bI).trans rfl; have i13 : w'.cell? ⟨w.heap.size + 1, 13, none⟩ = some (.slice A13 l13.length c13) := (cell_of_row _ _ 13 _ _ _ bI).trans rfl; have i14 : w'.cell? ⟨w.heap.size + 1, 14, none⟩ = some (.slice A14 l14.length c14) := (cell_of_row _ _ 14 _ _ _ bI).trans rfl; have z0 : w'.cell? ⟨w.heap.size + 1 + 1, 0, none⟩ = some (.int .i64 0) := (cell_of_row _ _ 0 _ _ _ bZ).trans rfl; have z1 : w'.cell? ⟨w.heap.size + 1 + 1, 1, none⟩ = some (.string ⟨#[]⟩) := (cell_of_row _ _ 1 _ _ _ bZ).trans rfl; have z2 : w'.cell? ⟨w.heap.size + 1 + 1, 2, none⟩ = some (.string ⟨#[]⟩) := (cell_of_row _ _ 2 _ _ _ bZ).trans rfl; have z3 : w'.cell? ⟨w.heap.size + 1 + 1, 3, none⟩ = some (.int .i64 0) := (cell_of_row _ _ 3 _ _ _ bZ).trans rfl; have z4 : w'.cell? ⟨w.heap.size + 1 + 1, 4, none⟩ = some (.int .i64 0) := (cell_of_row _ _ 4 _ _ _ bZ).trans rfl; have z5 : w'.cell? ⟨w.heap.size + 1 + 1, 5, none⟩ = some (.int .i64 0) := (cell_of_row _ _ 5 _ _ _ bZ).trans rfl; have z6 : w'.cell? ⟨w.heap.size + 1 + 1, 6, none⟩ = some (.int .i64 0) := (cell_of_row _ _ 6 _ _ _ bZ).trans rfl; have z7 : w'.cell? ⟨w.heap.size + 1 + 1, 7, none⟩ = some (.int .i64 0) := (cell_of_row _ _ 7 _ _ _ bZ).trans rfl; have z8 : w'.cell? ⟨w.heap.size + 1 + 1, 8, none⟩ = some (.int .i64 0) := (cell_of_row _ _ 8 _ _ _ bZ).trans rfl; have z9 : w'.cell? ⟨w.heap.size + 1 + 1, 9, none⟩ = some (.string ⟨#[]⟩) := (cell_of_row _ _ 9 _ _ _ bZ).trans rfl; have z10 : w'.cell? ⟨w.heap.size + 1 + 1, 10, none⟩ = some (.string ⟨#[]⟩) := (cell_of_row _ _ 10 _ _ _ bZ).trans rfl; have z11 : w'.cell? ⟨w.heap.size + 1 + 1, 11, none⟩ = some (.int .i64 0) := (cell_of_row _ _ 11 _ _ _ bZ).trans rfl; have z12 : w'.cell? ⟨w.heap.size + 1 + 1, 12, none⟩ = some (.int .i64 0) := (cell_of_row _ _ 12 _ _ _ bZ).trans rfl; have z13 : w'.cell? ⟨w.heap.size + 1 + 1, 13, none⟩ = some (.slice none 0 0) := (cell_of_row _ _ 13 _ _ _ bZ).trans rfl; have z14 : w'.cell? ⟨w.heap.size + 1 + 1, 14, none⟩ = some (.slice none 0 0) := (cell_of_row _ _ 14 _ _ _ bZ).trans rfl; have f0 : w'.frozen? ⟨w.heap.size + 1 + 1, 0, none⟩ = false := (by simp [World.frozen?, bZ]); have f1 : w'.frozen? ⟨w.heap.size + 1 + 1, 1, none⟩ = false := (by simp [World.frozen?, bZ]); have f2 : w'.frozen? ⟨w.heap.size + 1 + 1, 2, none⟩ = false := (by simp [World.frozen?, bZ]); have f3 : w'.frozen? ⟨w.heap.size + 1 + 1, 3, none⟩ = false := (by simp [World.frozen?, bZ]); have f4 : w'.frozen? ⟨w.heap.size + 1 + 1, 4, none⟩ = false := (by simp [World.frozen?, bZ]); have f5 : w'.frozen? ⟨w.heap.size + 1 + 1, 5, none⟩ = false := (by simp [World.frozen?, bZ]); have f6 : w'.frozen? ⟨w.heap.size + 1 + 1, 6, none⟩ = false := (by simp [World.frozen?, bZ]); have f7 : w'.frozen? ⟨w.heap.size + 1 + 1, 7, none⟩ = false := (by simp [World.frozen?, bZ]); have f8 : w'.frozen? ⟨w.heap.size + 1 + 1, 8, none⟩ = false := (by simp [World.frozen?, bZ]); have f9 : w'.frozen? ⟨w.heap.size + 1 + 1, 9, none⟩ = false := (by simp [World.frozen?, bZ]); have f10 : w'.frozen? ⟨w.heap.size + 1 + 1, 10, none⟩ = false := (by simp [World.frozen?, bZ]); have f11 : w'.frozen? ⟨w.heap.size + 1 + 1, 11, none⟩ = false := (by simp [World.frozen?, bZ]); have f12 : w'.frozen? ⟨w.heap.size + 1 + 1, 12, none⟩ = false := (by simp [World.frozen?, bZ]); have f13 : w'.frozen? ⟨w.heap.size + 1 + 1, 13, none⟩ = false := (by simp [World.frozen?, bZ]); have f14 : w'.frozen? ⟨w.heap.size + 1 + 1, 14, none⟩ = false := (by simp [World.frozen?, bZ]); clear hb bI bZ)
 refine bodyPost_ret (results_ct rfl _ _ (w.heap.size + 1 + 1) 29 #[.int .i64 a0, .string a1, .string a2, .int .i64 a3, .int .i64 a4, .int .i64 a5, .int .i64 a6, .int .i64 a7, .int .i64 a8, .string a9, .string a10, .int .i64 a11, .int .i64 a12, .slice A13 l13.length c13, .slice A14 l14.length c14] (0, 0) _ rfl (blk_put (cs := #[.int .i64 a0, .string a1, .string a2, .int .i64 a3, .int .i64 a4, .int .i64 a5, .int .i64 a6, .int .i64 a7, .int .i64 a8, .string a9, .string a10, .int .i64 a11, .int .i64 a12, .slice A13 l13.length c13, .slice none 0 0]) (cs' := #[.int .i64 a0, .string a1, .string a2, .int .i64 a3, .int .i64 a4, .int .i64 a5, .int .i64 a6, .int .i64 a7, .int .i64 a8, .string a9, .string a10, .int .i64 a11, .int .i64 a12, .slice A13 l13.length c13, .slice A14 l14.length c14]) (blk_put (cs := #[.int .i64 a0, .string a1, .string a2, .int .i64 a3, .int .i64 a4, .int .i64 a5, .int .i64 a6, .int .i64 a7, .int .i64 a8, .string a9, .string a10, .int .i64 a11, .int .i64 a12, .slice none 0 0, .slice none 0 0]) (cs' := #[.int .i64 a0, .string a1, .string a2, .int .i64 a3, .int .i64 a4, .int .i64 a5, .int .i64 a6, .int .i64 a7, .int .i64 a8, .string a9, .string a10, .int .i64 a11, .int .i64 a12, .slice A13 l13.length c13, .slice none 0 0]) (blk_put (cs := #[.int .i64 a0, .string a1, .string a2, .int .i64 a3, .int .i64 a4, .int .i64 a5, .int .i64 a6, .int .i64 a7, .int .i64 a8, .string a9, .string a10, .int .i64 a11, .int .i64 0, .slice none 0 0, .slice none 0 0]) (cs' := #[.int .i64 a0, .string a1, .string a2, .int .i64 a3, .int .i64 a4, .int .i64 a5, .int .i64 a6, .int .i64 a7, .int .i64 a8, .string a9, .string a10, .int .i64 a11, .int .i64 a12, .slice none 0 0, .slice none 0 0]) (blk_put (cs := #[.int .i64 a0, .string a1, .string a2, .int .i64 a3, .int .i64 a4, .int .i64 a5, .int .i64 a6, .int .i64 a7, .int .i64 a8, .string a9, .string a10, .int .i64 0, .int .i64 0, .slice none 0 0, .slice none 0 0]) (cs' := #[.int .i64 a0, .string a1, .string a2, .int .i64 a3, .int .i64 a4, .int .i64 a5, .int .i64 a6, .int .i64 a7, .int .i64 a8, .string a9, .string a10, .int .i64 a11, .int .i64 0, .slice none 0 0, .slice none 0 0]) (blk_put (cs := #[.int .i64 a0, .string a1, .string a2, .int .i64 a3, .int .i64 a4, .int .i64 a5, .int .i64 a6, .int .i64 a7, .int .i64 a8, .string a9, .string ⟨#[]⟩, .int .i64 0, .int .i64 0, .slice none 0 0, .slice none 0 0]) (cs' := #[.int .i64 a0, .string a1, .string a2, .int .i64 a3, .int .i64 a4, .int .i64 a5, .int .i64 a6, .int .i64 a7, .int .i64 a8, .string a9, .string a10, .int .i64 0, .int .i64 0, .slice none 0 0, .slice none 0 0]) (blk_put (cs := #[.int .i64 a0, .string a1, .string a2, .int .i64 a3, .int .i64 a4, .int .i64 a5, .int .i64 a6, .int .i64 a7, .int .i64 a8, .string ⟨#[]⟩, .string ⟨#[]⟩, .int .i64 0, .int .i64 0, .slice none 0 0, .slice none 0 0]) (cs' := #[.int .i64 a0, .string a1, .string a2, .int .i64 a3, .int .i64 a4, .int .i64 a5, .int .i64 a6, .int .i64 a7, .int .i64 a8, .string a9, .string ⟨#[]⟩, .int .i64 0, .int .i64 0, .slice none 0 0, .slice none 0 0]) (blk_put (cs := #[.int .i64 a0, .string a1, .string a2, .int .i64 a3, .int .i64 a4, .int .i64 a5, .int .i64 a6, .int .i64 a7, .int .i64 0, .string ⟨#[]⟩, .string ⟨#[]⟩, .int .i64 0, .int .i64 0, .slice none 0 0, .slice none 0 0]) (cs' := #[.int .i64 a0, .string a1, .string a2, .int .i64 a3, .int .i64 a4, .int .i64 a5, .int .i64 a6, .int .i64 a7, .int .i64 a8, .string ⟨#[]⟩, .string ⟨#[]⟩, .int .i64 0, .int .i64 0, .slice none 0 0, .slice none 0 0]) (blk_put (cs := #[.int .i64 a0, .string a1, .string a2, .int .i64 a3, .int .i64 a4, .int .i64 a5, .int .i64 a6, .int .i64 0, .int .i64 0, .string ⟨#[]⟩, .string ⟨#[]⟩, .int .i64 0, .int .i64 0, .slice none 0 0, .slice none 0 0]) (cs' := #[.int .i64 a0, .string a1, .string a2, .int .i64 a3, .int .i64 a4, .int .i64 a5, .int .i64 a6, .int .i64 a7, .int .i64 0, .string ⟨#[]⟩, .string ⟨#[]⟩, .int .i64 0, .int .i64 0, .slice none 0 0, .slice none 0 0]) (blk_put (cs := #[.int .i64 a0, .string a1, .string a2, .int .i64 a3, .int .i64 a4, .int .i64 a5, .int .i64 0, .int .i64 0, .int .i64 0, .string ⟨#[]⟩, .string ⟨#[]⟩, .int .i64 0, .int .i64 0, .slice none 0 0, .slice none 0 0]) (cs' := #[.int .i64 a0, .string a1, .string a2, .int .i64 a3, .int .i64 a4, .int .i64 a5, .int .i64 a6, .int .i64 0, .int .i64 0, .string ⟨#[]⟩, .string ⟨#[]⟩, .int .i64 0, .int .i64 0, .slice none 0 0, .slice none 0 0]) (blk_put (cs := #[.int .i64 a0, .string a1, .string a2, .int .i64 a3, .int .i64 a4, .int .i64 0, .int .i64 0, .int .i64 0, .int .i64 0, .string ⟨#[]⟩, .string ⟨#[]⟩, .int .i64 0, .int .i64 0, .slice none 0 0, .slice none 0 0]) (cs' := #[.int .i64 a0, .string a1, .string a2, .int .i64 a3, .int .i64 a4, .int .i64 a5, .int .i64 0, .int .i64 0, .int .i64 0, .string ⟨#[]⟩, .string ⟨#[]⟩, .int .i64 0, .int .i64 0, .slice none 0 0, .slice none 0 0]) (blk_put (cs := #[.int .i64 a0, .string a1, .string a2, .int .i64 a3, .int .i64 0, .int .i64 0, .int .i64 0, .int .i64 0, .int .i64 0, .string ⟨#[]⟩, .string ⟨#[]⟩, .int .i64 0, .int .i64 0, .slice none 0 0, .slice none 0 0]) (cs' := #[.int .i64 a0, .string a1, .string a2, .int .i64 a3, .int .i64 a4, .int .i64 0, .int .i64 0, .int .i64 0, .int .i64 0, .string ⟨#[]⟩, .string ⟨#[]⟩, .int .i64 0, .int .i64 0, .slice none 0 0, .slice none 0 0]) (blk_put (cs := #[.int .i64 a0, .string a1, .string a2, .int .i64 0, .int .i64 0, .int .i64 0, .int .i64 0, .int .i64 0, .int .i64 0, .string ⟨#[]⟩, .string ⟨#[]⟩, .int .i64 0, .int .i64 0, .slice none 0 0, .slice none 0 0]) (cs' := #[.int .i64 a0, .string a1, .string a2, .int .i64 a3, .int .i64 0, .int .i64 0, .int .i64 0, .int .i64 0, .int .i64 0, .string ⟨#[]⟩, .string ⟨#[]⟩, .int .i64 0, .int .i64 0, .slice none 0 0, .slice none 0 0]) (blk_put (cs := #[.int .i64 a0, .string a1, .string ⟨#[]⟩, .int .i64 0, .int .i64 0, .int .i64 0, .int .i64 0, .int .i64 0, .int .i64 0, .string ⟨#[]⟩, .string ⟨#[]⟩, .int .i64 0, .int .i64 0, .slice none 0 0, .slice none 0 0]) (cs' := #[.int .i64 a0, .string a1, .string a2, .int .i64 0, .int .i64 0, .int .i64 0, .int .i64 0, .int .i64 0, .int .i64 0, .string ⟨#[]⟩, .string ⟨#[]⟩, .int .i64 0, .int .i64 0, .slice none 0 0, .slice none 0 0]) (blk_put (cs := #[.int .i64 a0, .string ⟨#[]⟩, .string ⟨#[]⟩, .int .i64 0, .int .i64 0, .int .i64 0, .int .i64 0, .int .i64 0, .int .i64 0, .string ⟨#[]⟩, .string ⟨#[]⟩, .int .i64 0, .int .i64 0, .slice none 0 0, .slice none 0 0]) (cs' := #[.int .i64 a0, .string a1, .string ⟨#[]⟩, .int .i64 0, .int .i64 0, .int .i64 0, .int .i64 0, .int .i64 0, .int .i64 0, .string ⟨#[]⟩, .string ⟨#[]⟩, .int .i64 0, .int .i64 0, .slice none 0 0, .slice none 0 0]) (blk_put (cs := #[.int .i64 0, .string ⟨#[]⟩, .string ⟨#[]⟩, .int .i64 0, .int .i64 0, .int .i64 0, .int .i64 0, .int .i64 0, .int .i64 0, .string ⟨#[]⟩, .string ⟨#[]⟩, .int .i64 0, .int .i64 0, .slice none 0 0, .slice none 0 0]) (cs' := #[.int .i64 a0, .string ⟨#[]⟩, .string ⟨#[]⟩, .int .i64 0, .int .i64 0, .int .i64 0, .int .i64 0, .int .i64 0, .int .i64 0, .string ⟨#[]⟩, .string ⟨#[]⟩, .int .i64 0, .int .i64 0, .slice none 0 0, .slice none 0 0]) (BZ.out) 0 _ rfl) 1 _ rfl) 2 _ rfl) 3 _ rfl) 4 _ rfl) 5 _ rfl) 6 _ rfl) 7 _ rfl) 8 _ rfl) 9 _ rfl) 10 _ rfl) 11 _ rfl) 12 _ rfl) 13 _ rfl) 14 _ rfl) Tryz.underlying29 rfl (by kernel_rfl)) rfl ?_
 refine ⟨rfl, ?_⟩
 have hge : w.heap.size ≤ w.heap.size + 1 + 1 := by omega
 with_reducible repeat (first | exact HB1.out | refine below_set ?_ hge)
end Go.Proofs.YtejdmofljifkbaaGreatDoor.P
namespace Go.Proofs.YtejdmofljifkbaaGreatDoor.P
open Go.RowKit Go.Proofs.YtejdmofljifkbaaGreatDoorW.PrintWords Go.Proofs.YtejdmofljifkbaaGreatDoorW.PrintLast Go.Proofs.YtejdmofljifkbaaGreatDoorW.PrintMore
set_option linter.unusedVariables false
theorem range_blk {w : World} {B : Nat} {cs : Array Value} {t : TypeId} {fr : Nat × Nat} (h : w.heap[B]? = some (.cells cs t fr)) : w.rangeAt B 0 cs.toList := fun j v hv => by
 rw [Nat.zero_add, cell_of_row w B j cs t fr h]
 rw [Array.getElem?_toList] at hv
 exact hv
theorem blk_setCells {t : TypeId} (B : Nat) : ∀ (vs : List Value) (o : Nat) (w : World) (cs : Array Value), w.heap[B]? = some (.cells cs t (0, 0)) →
  ∃ cs' : Array Value, (w.setCells B o vs).heap[B]? = some (.cells cs' t (0, 0)) ∧ cs'.size = cs.size ∧ ∀ j, cs'[j]? = if o ≤ j ∧ j < o + vs.length ∧ j < cs.size then vs[j - o]? else cs[j]?
 | [], o, w, cs, h => ⟨cs, h, rfl, fun j => by rw [if_neg (by simp; omega)]⟩
 | v :: r, o, w, cs, h => by
  obtain ⟨c2, h1, h2, h3⟩ := blk_setCells B r (o + 1) _ _ (blk_set h o v)
  refine ⟨c2, h1, by rw [h2, Array.size_setIfInBounds], fun j => ?_⟩
  rw [h3 j, Array.size_setIfInBounds, Array.getElem?_setIfInBounds]
  by_cases e1 : o = j
  ·subst e1
   rw [if_neg (by omega), if_pos rfl]
   by_cases e2 : o < cs.size
   ·rw [if_pos e2, if_pos ⟨Nat.le_refl _, by simp, e2⟩]; simp
   ·rw [if_neg e2, if_neg (by omega)]
    rw [Array.getElem?_eq_none (by omega)]
  ·rw [if_neg e1]
   by_cases e3 : o + 1 ≤ j ∧ j < o + 1 + r.length ∧ j < cs.size
   ·rw [if_pos e3, if_pos ⟨by omega, by simp; omega, e3.2.2⟩]
    obtain ⟨d, hd⟩ : ∃ d, j - o = d + 1 := ⟨j - o - 1, by omega⟩
    rw [hd, List.getElem?_cons_succ, show j - (o + 1) = d by omega]
   ·rw [if_neg e3, if_neg (by simp; omega)]
theorem blk_store {t : TypeId} {B : Nat} {w : World} {cs cells : Array Value} (h : w.heap[B]? = some (.cells cs t (0, 0))) (hs : cells.size = cs.size) : (w.setCells B 0 cells.toList).heap[B]? = some (.cells cells t (0, 0)) := by
 obtain ⟨c2, h1, h2, h3⟩ := blk_setCells B cells.toList 0 w cs h
 obtain rfl : c2 = cells := by
  apply Array.ext_getElem?
  intro j
  rw [h3 j]
  by_cases hj : j < cs.size
  ·rw [if_pos ⟨Nat.zero_le _, by simp; omega, hj⟩, Nat.sub_zero, Array.getElem?_toList]
  ·rw [if_neg (by omega), Array.getElem?_eq_none (by omega), Array.getElem?_eq_none (by omega)]
 exact h1
theorem setCells_far (B : Nat) : ∀ (vs : List Value) (o : Nat) (w : World) (k : Nat), k ≠ B → (w.setCells B o vs).heap[k]? = w.heap[k]?
 | [], _, _, _, _ => rfl
 | v :: r, o, w, k, hk => (setCells_far B r (o + 1) _ k hk).trans (Below.heap_setCell w ⟨B, o, none⟩ v k hk)
theorem setCells_below (B : Nat) (H : Nat) (hB : H ≤ B) {w0 : World} : ∀ (vs : List Value) (o : Nat) (w : World), Below H w0 w → Below H w0 (w.setCells B o vs)
 | [], _, _, h => h
 | v :: r, o, w, h => setCells_below B H hB r (o + 1) _ (h.setCell (p := ⟨B, o, none⟩) hB v)
theorem setCells_size (B : Nat) : ∀ (vs : List Value) (o : Nat) (w : World), (w.setCells B o vs).heap.size = w.heap.size
 | [], _, _ => rfl
 | v :: r, o, w => (setCells_size B r (o + 1) _).trans (by simp)
section
variable {P : Program} {ops : Array Oper} {rest : List Oper} {o : Oper} {a : Act} {Q : Exit → Act → World → Prop}
theorem wpList_load_blk {w : World} (hgd : o.guard = none) (ty : TypeId) (x : Operand) (ho : o.op = .load ty x) (B : Nat) (hx : a.eval x = .pointer (some ⟨B, 0, none⟩)) {cs : Array Value} {t : TypeId} {fr : Nat × Nat} (hb : w.heap[B]? = some (.cells cs t fr)) (d : TypeDesc) (hu : P.underlying ty = some d) (hd : d.isRow = true) (hi : (P.info? ty).map (·.size) = some cs.size)
  (h : wpList P ops Q rest (a.put o.dst (.agg cs)) w) : wpList P ops Q (o :: rest) a w :=
 wpList_load_mid hgd ty x ho B 0 hx cs.toList d (range_blk hb) hu hd (by rw [hi, Array.length_toList]) (by rw [Array.toArray_toList]; exact h)
theorem wpList_store_blk {w : World} (hgd : o.guard = none) (ty : TypeId) (x y : Operand) (ho : o.op = .store ty x y) (B : Nat) (cells : Array Value) (hx : a.eval x = .pointer (some ⟨B, 0, none⟩)) (hy : a.eval y = .agg cells) {cs : Array Value} {t : TypeId} (hb : w.heap[B]? = some (.cells cs t (0, 0)))
  (hs : cells.size = cs.size) (hi : (P.info? ty).map (·.size) = some cells.size) (h1 : cells.all (·.oneCell') = true)
  (h : ∀ w' : World, w'.heap[B]? = some (.cells cells t (0, 0)) → (∀ k, k ≠ B → w'.heap[k]? = w.heap[k]?) → w'.heap.size = w.heap.size → (∀ (H : Nat) (w0 : World), H ≤ B → Below H w0 w → Below H w0 w') → wpList P ops Q rest (a.put o.dst undef) w') : wpList P ops Q (o :: rest) a w :=
 wpList_store_mid hgd ty x y ho B 0 cells hx hy (fun j hj => by
  rw [Nat.zero_add, blk_cell hb, blk_frozen hb]
  exact ⟨by rw [Array.getElem?_eq_getElem (by omega)]; rfl, rfl⟩) hi h1
  (h _ (blk_store hb hs) (fun k hk => setCells_far B _ 0 w k hk) (setCells_size B _ 0 w) (fun H w0 hB hbl => setCells_below B H hB _ 0 w hbl))
theorem run_store_fld (w : World) (B j : Nat) (t ty : TypeId) (cs : Array Value) (v : Value) (hb : w.heap[B]? = some (.cells cs t (0, 0))) (hj : j < cs.size) (hi : (P.info? ty).map (·.size) = some 1) (h1 : v.oneCell' = true) :
  (storeVar ty ⟨B, j, none⟩ v).run P w = .ok () (w.setCell ⟨B, j, none⟩ v) := by
 have := run_storeCells_cells (P := P) B j [v] 0 w (fun i hi' => by
   simp at hi'; subst hi'
   have e := blk_cell hb j
   rw [Array.getElem?_eq_getElem hj] at e
   exact (congrArg Option.isSome e).trans rfl) (fun i hi' => by rw [blk_frozen hb]) (fun x hx => by simp at hx; subst hx; exact h1)
 have hc : v.cells = #[v] := by cases v <;> first | rfl | cases h1
 cases hq : P.info? ty with
 | none => simp [hq] at hi
 | some i =>
  have hs : i.size = 1 := by simpa [hq] using hi
  simp only [Nat.add_zero] at this
  simp [storeVar, sizeOf, typeInfo, hq, hc, hs, this, World.setCells]
theorem wpList_store_fld {w : World} (hgd : o.guard = none) (ty : TypeId) (x y : Operand) (ho : o.op = .store ty x y) (B j : Nat) (v : Value) (hx : a.eval x = .pointer (some ⟨B, j, none⟩)) (hy : a.eval y = v) {cs : Array Value} {t : TypeId} (hb : w.heap[B]? = some (.cells cs t (0, 0)))
  (hj : decide (j < cs.size) = true) (hi : (P.info? ty).map (·.size) = some 1) (h1 : v.oneCell' = true)
  (h : ∀ w' : World, w'.heap[B]? = some (.cells (cs.setIfInBounds j v) t (0, 0)) → (∀ k, k ≠ B → w'.heap[k]? = w.heap[k]?) → w'.heap.size = w.heap.size → (∀ (H : Nat) (w0 : World), H ≤ B → Below H w0 w → Below H w0 w') → wpList P ops Q rest (a.put o.dst undef) w') : wpList P ops Q (o :: rest) a w :=
 wpList_plain hgd fun _ hK => by
  unfold Oper.wp execOp
  simp only [ho, hx, hy, Instr.storeAt, Instr.sureAddr, Sem.run_bind, Sem.run_pure, Result.andThen_ok, run_store_fld w B j t ty cs v hb (of_decide_eq_true hj) hi h1]
  exact hK _ _ (h _ (blk_set hb j v) (fun k hk => Below.heap_setCell w ⟨B, j, none⟩ v k hk) (by simp) (fun H w0 hB hbl => hbl.setCell (p := ⟨B, j, none⟩) hB v))
end
end Go.Proofs.YtejdmofljifkbaaGreatDoor.P
namespace Go.Proofs.YtejdmofljifkbaaGreatDoor.P
open Go.RowKit Go.Shelf Go.Proofs.YtejdmofljifkbaaGreatDoorW.PrintWords Go.Proofs.YtejdmofljifkbaaGreatDoorW.PrintLast Go.Proofs.YtejdmofljifkbaaGreatDoorW.PrintMore
set_option linter.unusedVariables false
attribute [local go_sem] Oper.semAt_some
def OnePost (w w' : World) (e : Ending) (ok : Bool) (y : S29) : Prop := ∃ cs : List Value, e = .returned (.tuple #[.agg cs.toArray, .bool ok]) ∧ cs.length = 15 ∧ (∀ u ∈ cs, u.oneCell' = true) ∧ (ok = true → k29.M w' w.heap.size (fun _ => True) y cs) ∧ Below w.heap.size w w'
theorem copy_f (a0 : Int) (a1 : ByteArray) (a2 : ByteArray) (a3 : Int) (a4 : Int) (a5 : Int) (a6 : Int) (a7 : Int) (a8 : Int) (a9 : ByteArray) (a10 : ByteArray) (a11 : Int) (a12 : Int) (l13 : List S65) (l14 : List Int) (h1 : l13.length < 4398046511104) (h2 : l14.length < 4398046511104) :
  item_Copy.f a0 a1 a2 a3 a4 a5 a6 a7 a8 a9 a10 a11 a12 l13 l14 = some (a0, a1, a2, a3, a4, a5, a6, a7, a8, a9, a10, a11, a12, l13, l14) := by
 unfold item_Copy.f api_Pair_119.f slices_Clone_byte_byte.f
 rw [if_pos h1, if_pos h2]
 rfl
theorem one_str (s : ByteArray) : (Value.string s).oneCell' = true := rfl
theorem own_one {e b : Nat} {α : Type} {d : Kd α} {w : World} {ok : Nat → Prop} {v : Value} {xs : List α} (h : Kd.R d e w b ok v xs) : v.oneCell' = true := by
 obtain ⟨A, c, rfl⟩ := Kd.R_slice h
 rfl
theorem all15 {P : Value → Prop} {v0 v1 v2 v3 v4 v5 v6 v7 v8 v9 v10 v11 v12 v13 v14 : Value} (h0 : P v0) (h1 : P v1) (h2 : P v2) (h3 : P v3) (h4 : P v4) (h5 : P v5) (h6 : P v6) (h7 : P v7) (h8 : P v8) (h9 : P v9) (h10 : P v10) (h11 : P v11) (h12 : P v12) (h13 : P v13) (h14 : P v14) :
  ∀ u ∈ [v0, v1, v2, v3, v4, v5, v6, v7, v8, v9, v10, v11, v12, v13, v14], P u := by
 intro u hu
 simp only [List.mem_cons, List.not_mem_nil, or_false] at hu
 rcases hu with rfl | rfl | rfl | rfl | rfl | rfl | rfl | rfl | rfl | rfl | rfl | rfl | rfl | rfl | rfl <;> assumption
def itemOf (a0 : Int) (a1 : ByteArray) (a2 : ByteArray) (a3 : Int) (a4 : Int) (a5 : Int) (a6 : Int) (a7 : Int) (a8 : Int) (a9 : ByteArray) (a10 : ByteArray) (a11 : Int) (a12 : Int) (l13 : List S65) (l14 : List Int) : S29 := ⟨⟨a0, a1, a2, a3, a4, a5, a6, ⟨a7, a8⟩, a9, a10, a11, a12, l13⟩, l14⟩
def oneX (st : Int) (px : ByteArray) (x : S29) : S29 := { x with f0 := { x.f0 with f1 := namL st px x.f0.f1, f2 := if x.f0.f0 = 2 then namL st px x.f0.f2 else x.f0.f2 } }
def oneOk (st : Int) (x : S29) : Bool := namOk st x.f0.f1 && (if x.f0.f0 = 2 then namOk st x.f0.f2 else true)
set_option maxRecDepth 100000 in
set_option maxHeartbeats 6400000 in
theorem one_yes (all : Bool) (A : Option Addr) (cap : Nat) (rs : List Ru) (st : Int) (px : ByteArray) (w : World) (hr : Kd.C k45 w A rs.length rs) (hlen : rs.length ≤ 1000000) (hz : ∀ r ∈ rs, r.f1.size ≤ 1000) (hpx : px.size ≤ 1000000)
  (a0 : Int) (a1 : ByteArray) (a2 : ByteArray) (a3 : Int) (a4 : Int) (a5 : Int) (a6 : Int) (a7 : Int) (a8 : Int) (a9 : ByteArray) (a10 : ByteArray) (a11 : Int) (a12 : Int) (A13 : Option Addr) (c13 : Nat) (l13 : List S65) (A14 : Option Addr) (c14 : Nat) (l14 : List Int) (e13 : l13.length ≤ c13) (g13 : Kd.C k65 w A13 l13.length l13) (e14 : l14.length ≤ c14) (g14 : Kd.C (Kd.int .u8) w A14 l14.length l14)
  (s13 : l13.length < 4398046511104) (s14 : l14.length < 4398046511104) (hnm : a1.size ≤ 1000000) (hlk : a2.size ≤ 1000000) (hT : takenL all rs a1 = true) :
  Calls Tryz.prog 42 #[.agg #[.bool all, .slice A rs.length cap, .int .i64 st, .string px], .agg #[.int .i64 a0, .string a1, .string a2, .int .i64 a3, .int .i64 a4, .int .i64 a5, .int .i64 a6, .int .i64 a7, .int .i64 a8, .string a9, .string a10, .int .i64 a11, .int .i64 a12, .slice A13 l13.length c13, .slice A14 l14.length c14]] w fun e w' => OnePost w w' e (namOk st a1 && (if a0 = 2 then namOk st a2 else true)) (itemOf a0 (namL st px a1) (if a0 = 2 then namL st px a2 else a2) a3 a4 a5 a6 a7 a8 a9 a10 a11 a12 l13 l14) := by
 have hu29 := Tryz.underlying29
 have hu26 := Tryz.underlying26
 have HR := Lib.hid hr
 have HZ := Lib.hid hz
 have HT := Lib.hid hT
 have G13 := Lib.hid g13
 have G14 := Lib.hid g14
 have HCP := Lib.hid (copy_f a0 a1 a2 a3 a4 a5 a6 a7 a8 a9 a10 a11 a12 l13 l14 s13 s14)
 clear hr hz hT g13 g14 s13 s14
 have HB0 := Lib.hid ((((Below.refl w.heap.size w).alloc (Nat.le_refl _) (.cells #[.bool all, .slice A rs.length cap, .int .i64 st, .string px] 43)).alloc (by simp) (.cells #[.int .i64 a0, .string a1, .string a2, .int .i64 a3, .int .i64 a4, .int .i64 a5, .int .i64 a6, .int .i64 a7, .int .i64 a8, .string a9, .string a10, .int .i64 a11, .int .i64 a12, .slice A13 l13.length c13, .slice A14 l14.length c14] 29)).alloc (by first | (simp; done) | (simp; omega)) (.cells #[.int .i64 0, .string ⟨#[]⟩, .string ⟨#[]⟩, .int .i64 0, .int .i64 0, .int .i64 0, .int .i64 0, .int .i64 0, .int .i64 0, .string ⟨#[]⟩, .string ⟨#[]⟩, .int .i64 0, .int .i64 0, .slice none 0 0, .slice none 0 0] 29))
 obtain ⟨N1, hN1⟩ : ∃ N, namL st px a1 = N := ⟨_, rfl⟩
 obtain ⟨N2, hN2⟩ : ∃ N, namL st px a2 = N := ⟨_, rfl⟩
 obtain ⟨O1, hO1⟩ : ∃ N, namOk st a1 = N := ⟨_, rfl⟩
 obtain ⟨O2, hO2⟩ : ∃ N, namOk st a2 = N := ⟨_, rfl⟩
 have HN1 := Lib.hid (fun W => named_calls all A rs.length cap st px a1 hnm hpx W)
 have HN2 := Lib.hid (fun W => named_calls all A rs.length cap st px a2 hlk hpx W)
 rw [hN1, hO1] at HN1
 rw [hN2, hO2] at HN2
 rw [hN1, hN2, hO1, hO2]
 obtain ⟨OK, hOK⟩ : ∃ N, (O1 && (if a0 = 2 then O2 else true)) = N := ⟨_, rfl⟩
 obtain ⟨X2, hX2⟩ : ∃ N, (if a0 = 2 then N2 else a2) = N := ⟨_, rfl⟩
 rw [hOK, hX2]
 have HOK := Lib.hid hOK
 have HX2 := Lib.hid hX2
 clear hN1 hN2 hO1 hO2 hOK hX2
 go_enter Tryz.func42, Tryz.ntmps42
 go_wp2_with fail
 refine (taken_calls all A cap rs st px a1 _ (Kd.C_below HR.out HB0.out) hlen HZ.out hnm).mono ?_
 rw [HT.out]
 rintro e w1 ⟨rfl, hb⟩
 have HB1 := Lib.hid (below_step HB0.out hb)
 have BP1 := Lib.hid (show w1.heap[w.heap.size]? = some (.cells #[.bool all, .slice A rs.length cap, .int .i64 st, .string px] 43 (0, 0)) from (hb.block _ (by first | (simp; done) | (simp; omega))).trans ((Below.heap_alloc _ _ _ (by first | (simp; done) | (simp; omega))).trans ((Below.heap_alloc _ _ _ (by simp)).trans (heap_alloc_new w _))))
 have BI1 := Lib.hid (show w1.heap[w.heap.size + 1]? = some (.cells #[.int .i64 a0, .string a1, .string a2, .int .i64 a3, .int .i64 a4, .int .i64 a5, .int .i64 a6, .int .i64 a7, .int .i64 a8, .string a9, .string a10, .int .i64 a11, .int .i64 a12, .slice A13 l13.length c13, .slice A14 l14.length c14] 29 (0, 0)) from (hb.block _ (by simp)).trans ((Below.heap_alloc _ _ _ (by simp)).trans (by have := heap_alloc_new (w.alloc (.cells #[.bool all, .slice A rs.length cap, .int .i64 st, .string px] 43)) (.cells #[.int .i64 a0, .string a1, .string a2, .int .i64 a3, .int .i64 a4, .int .i64 a5, .int .i64 a6, .int .i64 a7, .int .i64 a8, .string a9, .string a10, .int .i64 a11, .int .i64 a12, .slice A13 l13.length c13, .slice A14 l14.length c14] 29); rwa [World.size_alloc] at this)))
 have BZ1 := Lib.hid (show w1.heap[w.heap.size + 1 + 1]? = some (.cells #[.int .i64 0, .string ⟨#[]⟩, .string ⟨#[]⟩, .int .i64 0, .int .i64 0, .int .i64 0, .int .i64 0, .int .i64 0, .int .i64 0, .string ⟨#[]⟩, .string ⟨#[]⟩, .int .i64 0, .int .i64 0, .slice none 0 0, .slice none 0 0] 29 (0, 0)) from (hb.block _ (by simp)).trans (by have := heap_alloc_new ((w.alloc (.cells #[.bool all, .slice A rs.length cap, .int .i64 st, .string px] 43)).alloc (.cells #[.int .i64 a0, .string a1, .string a2, .int .i64 a3, .int .i64 a4, .int .i64 a5, .int .i64 a6, .int .i64 a7, .int .i64 a8, .string a9, .string a10, .int .i64 a11, .int .i64 a12, .slice A13 l13.length c13, .slice A14 l14.length c14] 29)) (.cells #[.int .i64 0, .string ⟨#[]⟩, .string ⟨#[]⟩, .int .i64 0, .int .i64 0, .int .i64 0, .int .i64 0, .int .i64 0, .int .i64 0, .string ⟨#[]⟩, .string ⟨#[]⟩, .int .i64 0, .int .i64 0, .slice none 0 0, .slice none 0 0] 29); rwa [World.size_alloc, World.size_alloc] at this))
 clear hb HR HT HZ
 go_wp2_with ((with_reducible refine wpList_load_blk rfl 29 (.tmp 3) rfl (w.heap.size + 1) rfl BI1.out _ Tryz.underlying29 rfl (by kernel_rfl) ?_))
 refine (item_Copy.calls a0 a1 a2 a3 a4 a5 a6 a7 a8 a9 a10 a11 a12 A13 c13 l13 A14 c14 l14 _ _ _ _ _ _ _ _ _ _ _ _ _ _ _ _ (Kd.C_below G13.out HB1.out) e13 (Kd.C_below G14.out HB1.out) e14 HCP.out).mono ?_
 rintro e w2 ⟨v13, v14, rfl, h13, h14, hb⟩
 have o13 := own_one h13
 have o14 := own_one h14
 have O15 : ∀ (m1 m2 : ByteArray), ∀ u ∈ [.int .i64 a0, .string m1, .string m2, .int .i64 a3, .int .i64 a4, .int .i64 a5, .int .i64 a6, .int .i64 a7, .int .i64 a8, .string a9, .string a10, .int .i64 a11, .int .i64 a12, v13, v14], u.oneCell' = true := fun m1 m2 => all15 rfl rfl rfl rfl rfl rfl rfl rfl rfl rfl rfl rfl rfl o13 o14
 have MM := Lib.hid (fun (m1 m2 : ByteArray) => k29_mkM w2 w1.heap.size (fun _ => True) (itemOf a0 m1 m2 a3 a4 a5 a6 a7 a8 a9 a10 a11 a12 l13 l14) h13 h14)
 have HO := Lib.hid O15
 have HB2 := Lib.hid (below_step HB1.out hb)
 have BP2 := Lib.hid (blk_below BP1.out hb)
 have BI2 := Lib.hid (blk_below BI1.out hb)
 have BZ2 := Lib.hid (blk_below BZ1.out hb)
 have S1 := Lib.hid HB1.out.size
 have Z1 := Lib.hid (show w.heap.size + 1 + 1 < w1.heap.size from blk_lt BZ1.out)
 clear hb h13 h14 o13 o14 O15 HB0 HB1 BP1 BI1 BZ1 G13 G14 HCP
 go_wp2_with (first
  | ((with_reducible refine wpList_store_blk rfl 29 (.tmp 3) (.tmp 15) rfl (w.heap.size + 1) #[.int .i64 a0, .string a1, .string a2, .int .i64 a3, .int .i64 a4, .int .i64 a5, .int .i64 a6, .int .i64 a7, .int .i64 a8, .string a9, .string a10, .int .i64 a11, .int .i64 a12, v13, v14] rfl rfl BI2.out rfl (by kernel_rfl) (all_oneCell_toArray (HO.out a1 a2)) ?_); intro w3 bI3 hf3 hs3 hk3; have BI3 := Lib.hid bI3; have BP3 := Lib.hid ((hf3 _ (by omega)).trans BP2.out); have BZ3 := Lib.hid ((hf3 _ (by omega)).trans BZ2.out); have HB3 := Lib.hid (hk3 _ _ (by omega) HB2.out); have FA3 := Lib.hid hf3; have HS3 := Lib.hid hs3; have c31 : w3.cell? ⟨w.heap.size + 1, 1, none⟩ = some (.string a1) := (blk_cell BI3.out 1).trans rfl; clear bI3 hf3 hs3 hk3)
  | ((with_reducible refine wpList_load_blk rfl 43 (.tmp 2) rfl w.heap.size rfl BP3.out _ Tryz.underlying43 rfl (by kernel_rfl) ?_)))
 refine (HN1.out _).mono ?_
 rintro e w4 ⟨rfl, hb⟩
 have HB4 := Lib.hid (below_step HB3.out hb)
 have BP4 := Lib.hid (blk_below BP3.out hb)
 have BI4 := Lib.hid (blk_below BI3.out hb)
 have BZ4 := Lib.hid (blk_below BZ3.out hb)
 have FA4 := Lib.hid (show ∀ k, w1.heap.size ≤ k → k < w2.heap.size → w4.heap[k]? = w2.heap[k]? from fun k hk hk2 => (hb.block k (by have := HS3.out; omega)).trans (FA3.out k (by have := Z1.out; omega)))
 have SZ24 := Lib.hid (show w2.heap.size ≤ w4.heap.size from by have h1 := hb.size; have h2 := HS3.out; omega)
 clear hb c31 HB2 HB3 BP2 BI2 BZ2 BP3 BI3 BZ3 FA3 HS3
 have ST5 : Hid (∀ (W5 : World), (∀ k, k ≠ w.heap.size + 1 → W5.heap[k]? = w4.heap[k]?) → ∀ k, w1.heap.size ≤ k → k < w2.heap.size → W5.heap[k]? = w2.heap[k]?) := Lib.hid (fun W5 h k hk hk2 => (h k (by have := Z1.out; omega)).trans (FA4.out k hk hk2))
 cases O1 with
 | false =>
  go_wp2_with (first
   | ((with_reducible refine wpList_store_fld rfl 9 (.tmp 25) (.tmp 22) rfl (w.heap.size + 1) 1 (.string N1) rfl rfl BI4.out (by kernel_rfl) (by kernel_rfl) (one_str _) ?_); intro w5 bI5 hf5 hs5 hk5; have BI5 := Lib.hid (show w5.heap[w.heap.size + 1]? = some (.cells #[.int .i64 a0, .string N1, .string a2, .int .i64 a3, .int .i64 a4, .int .i64 a5, .int .i64 a6, .int .i64 a7, .int .i64 a8, .string a9, .string a10, .int .i64 a11, .int .i64 a12, v13, v14] 29 (0, 0)) from bI5); have BZ5 := Lib.hid ((hf5 _ (by omega)).trans BZ4.out); have HB5 := Lib.hid (hk5 _ _ (by omega) HB4.out); clear bI5 hf5 hs5 hk5)
   | ((with_reducible refine wpList_load_blk rfl 29 (.tmp 3) rfl (w.heap.size + 1) rfl BI5.out _ Tryz.underlying29 rfl (by kernel_rfl) ?_))
   | ((with_reducible refine wpList_store_blk rfl 29 (.tmp 4) (.tmp 28) rfl (w.heap.size + 1 + 1) #[.int .i64 a0, .string N1, .string a2, .int .i64 a3, .int .i64 a4, .int .i64 a5, .int .i64 a6, .int .i64 a7, .int .i64 a8, .string a9, .string a10, .int .i64 a11, .int .i64 a12, v13, v14] rfl rfl BZ5.out rfl (by kernel_rfl) (all_oneCell_toArray (HO.out N1 a2)) ?_); intro w6 bZ6 hf6 hs6 hk6; have BZ6 := Lib.hid bZ6; have HB6 := Lib.hid (hk6 _ _ (by omega) HB5.out); clear bZ6 hf6 hs6 hk6))
  refine bodyPost_ret (results_ct rfl _ _ (w.heap.size + 1 + 1) 29 #[.int .i64 a0, .string N1, .string a2, .int .i64 a3, .int .i64 a4, .int .i64 a5, .int .i64 a6, .int .i64 a7, .int .i64 a8, .string a9, .string a10, .int .i64 a11, .int .i64 a12, v13, v14] (0, 0) _ rfl BZ6.out Tryz.underlying29 rfl (by kernel_rfl)) rfl ?_
  have hk : OK = false := by rw [← HOK.out]; rfl
  exact ⟨[.int .i64 a0, .string N1, .string a2, .int .i64 a3, .int .i64 a4, .int .i64 a5, .int .i64 a6, .int .i64 a7, .int .i64 a8, .string a9, .string a10, .int .i64 a11, .int .i64 a12, v13, v14], by rw [hk]; rfl, rfl, HO.out N1 a2, fun h => (by rw [hk] at h; cases h), HB6.out⟩
 | true =>
  cases ha : decide (a0 = 2) with
  | false =>
   have ha0 : (a0 == 2) = false := by simpa using ha
   have han : ¬ a0 = 2 := by simpa using ha
   have hk := Lib.hid (show OK = true from by rw [← HOK.out, if_neg han]; rfl)
   have hx := Lib.hid (show X2 = a2 from by rw [← HX2.out, if_neg han])
   clear ha han
   go_wp2_with (first
    | ((with_reducible refine wpList_store_fld rfl 9 (.tmp 25) (.tmp 22) rfl (w.heap.size + 1) 1 (.string N1) rfl rfl BI4.out (by kernel_rfl) (by kernel_rfl) (one_str _) ?_); intro w5 bI5 hf5 hs5 hk5; have BI5 := Lib.hid (show w5.heap[w.heap.size + 1]? = some (.cells #[.int .i64 a0, .string N1, .string a2, .int .i64 a3, .int .i64 a4, .int .i64 a5, .int .i64 a6, .int .i64 a7, .int .i64 a8, .string a9, .string a10, .int .i64 a11, .int .i64 a12, v13, v14] 29 (0, 0)) from bI5); have BZ5 := Lib.hid ((hf5 _ (by omega)).trans BZ4.out); have HB5 := Lib.hid (hk5 _ _ (by omega) HB4.out); have ST6 := Lib.hid (ST5.out _ hf5); have c50 : w5.cell? ⟨w.heap.size + 1, 0, none⟩ = some (.int .i64 a0) := (blk_cell BI5.out 0).trans rfl; clear bI5 hf5 hs5 hk5)
    | ((with_reducible refine wpList_load_blk rfl 29 (.tmp 3) rfl (w.heap.size + 1) rfl BI5.out _ Tryz.underlying29 rfl (by kernel_rfl) ?_))
    | ((with_reducible refine wpList_store_blk rfl 29 (.tmp 4) (.tmp 43) rfl (w.heap.size + 1 + 1) #[.int .i64 a0, .string N1, .string a2, .int .i64 a3, .int .i64 a4, .int .i64 a5, .int .i64 a6, .int .i64 a7, .int .i64 a8, .string a9, .string a10, .int .i64 a11, .int .i64 a12, v13, v14] rfl rfl BZ5.out rfl (by kernel_rfl) (all_oneCell_toArray (HO.out N1 a2)) ?_); intro w6 bZ6 hf6 hs6 hk6; have BZ6 := Lib.hid bZ6; have HB6 := Lib.hid (hk6 _ _ (by omega) HB5.out); have ST7 := Lib.hid (show ∀ k, w1.heap.size ≤ k → k < w2.heap.size → w6.heap[k]? = w2.heap[k]? from fun k hk hk2 => (hf6 k (by have := Z1.out; omega)).trans (ST6.out k hk hk2)); clear bZ6 hf6 hs6 hk6))
   refine bodyPost_ret (results_ct rfl _ _ (w.heap.size + 1 + 1) 29 #[.int .i64 a0, .string N1, .string a2, .int .i64 a3, .int .i64 a4, .int .i64 a5, .int .i64 a6, .int .i64 a7, .int .i64 a8, .string a9, .string a10, .int .i64 a11, .int .i64 a12, v13, v14] (0, 0) _ rfl BZ6.out Tryz.underlying29 rfl (by kernel_rfl)) rfl ?_
   exact ⟨[.int .i64 a0, .string N1, .string a2, .int .i64 a3, .int .i64 a4, .int .i64 a5, .int .i64 a6, .int .i64 a7, .int .i64 a8, .string a9, .string a10, .int .i64 a11, .int .i64 a12, v13, v14], by rw [hk.out]; rfl, rfl, HO.out N1 a2, fun _ => (by rw [hx.out]; exact Kd.M_mono _ (fun k _ => trivial) (Kd.M_lower _ S1.out (k29.M_move (fun k hk => ST7.out k hk.2.1 hk.2.2.1) (k29.M_bound (MM.out N1 a2))))), HB6.out⟩
  | true =>
   have ha0 : (a0 == 2) = true := by simpa using ha
   have han : a0 = 2 := by simpa using ha
   have hk := Lib.hid (show OK = O2 from by rw [← HOK.out, if_pos han]; rfl)
   have hx := Lib.hid (show X2 = N2 from by rw [← HX2.out, if_pos han])
   clear ha han
   go_wp2_with (first
    | ((with_reducible refine wpList_store_fld rfl 9 (.tmp 25) (.tmp 22) rfl (w.heap.size + 1) 1 (.string N1) rfl rfl BI4.out (by kernel_rfl) (by kernel_rfl) (one_str _) ?_); intro w5 bI5 hf5 hs5 hk5; have BI5 := Lib.hid (show w5.heap[w.heap.size + 1]? = some (.cells #[.int .i64 a0, .string N1, .string a2, .int .i64 a3, .int .i64 a4, .int .i64 a5, .int .i64 a6, .int .i64 a7, .int .i64 a8, .string a9, .string a10, .int .i64 a11, .int .i64 a12, v13, v14] 29 (0, 0)) from bI5); have BP5 := Lib.hid ((hf5 _ (by omega)).trans BP4.out); have BZ5 := Lib.hid ((hf5 _ (by omega)).trans BZ4.out); have HB5 := Lib.hid (hk5 _ _ (by omega) HB4.out); have ST6 := Lib.hid (ST5.out _ hf5); have HS5 := Lib.hid hs5; have c50 : w5.cell? ⟨w.heap.size + 1, 0, none⟩ = some (.int .i64 a0) := (blk_cell BI5.out 0).trans rfl; have c52 : w5.cell? ⟨w.heap.size + 1, 2, none⟩ = some (.string a2) := (blk_cell BI5.out 2).trans rfl; clear bI5 hf5 hs5 hk5)
    | ((with_reducible refine wpList_load_blk rfl 43 (.tmp 2) rfl w.heap.size rfl BP5.out _ Tryz.underlying43 rfl (by kernel_rfl) ?_)))
   refine (HN2.out _).mono ?_
   rintro e w7 ⟨rfl, hb⟩
   have HB7 := Lib.hid (below_step HB5.out hb)
   have BI7 := Lib.hid (blk_below BI5.out hb)
   have BZ7 := Lib.hid (blk_below BZ5.out hb)
   have ST7 := Lib.hid (show ∀ k, w1.heap.size ≤ k → k < w2.heap.size → w7.heap[k]? = w2.heap[k]? from fun k hk hk2 => (hb.block k (by have h1 := HB4.out.size; have h2 := HS5.out; have h3 := SZ24.out; omega)).trans (ST6.out k hk hk2))
   clear hb c50 c52
   go_wp2_with (first
    | ((with_reducible refine wpList_store_fld rfl 9 (.tmp 42) (.tmp 39) rfl (w.heap.size + 1) 2 (.string N2) rfl rfl BI7.out (by kernel_rfl) (by kernel_rfl) (one_str _) ?_); intro w8 bI8 hf8 hs8 hk8; have BI8 := Lib.hid (show w8.heap[w.heap.size + 1]? = some (.cells #[.int .i64 a0, .string N1, .string N2, .int .i64 a3, .int .i64 a4, .int .i64 a5, .int .i64 a6, .int .i64 a7, .int .i64 a8, .string a9, .string a10, .int .i64 a11, .int .i64 a12, v13, v14] 29 (0, 0)) from bI8); have BZ8 := Lib.hid ((hf8 _ (by omega)).trans BZ7.out); have HB8 := Lib.hid (hk8 _ _ (by omega) HB7.out); have ST8 := Lib.hid (show ∀ k, w1.heap.size ≤ k → k < w2.heap.size → w8.heap[k]? = w2.heap[k]? from fun k hk hk2 => (hf8 k (by have := Z1.out; omega)).trans (ST7.out k hk hk2)); clear bI8 hf8 hs8 hk8)
    | ((with_reducible refine wpList_load_blk rfl 29 (.tmp 3) rfl (w.heap.size + 1) rfl BI8.out _ Tryz.underlying29 rfl (by kernel_rfl) ?_))
    | ((with_reducible refine wpList_store_blk rfl 29 (.tmp 4) (.tmp 43) rfl (w.heap.size + 1 + 1) #[.int .i64 a0, .string N1, .string N2, .int .i64 a3, .int .i64 a4, .int .i64 a5, .int .i64 a6, .int .i64 a7, .int .i64 a8, .string a9, .string a10, .int .i64 a11, .int .i64 a12, v13, v14] rfl rfl BZ8.out rfl (by kernel_rfl) (all_oneCell_toArray (HO.out N1 N2)) ?_); intro w9 bZ9 hf9 hs9 hk9; have BZ9 := Lib.hid bZ9; have HB9 := Lib.hid (hk9 _ _ (by omega) HB8.out); have ST9 := Lib.hid (show ∀ k, w1.heap.size ≤ k → k < w2.heap.size → w9.heap[k]? = w2.heap[k]? from fun k hk hk2 => (hf9 k (by have := Z1.out; omega)).trans (ST8.out k hk hk2)); clear bZ9 hf9 hs9 hk9))
   refine bodyPost_ret (results_ct rfl _ _ (w.heap.size + 1 + 1) 29 #[.int .i64 a0, .string N1, .string N2, .int .i64 a3, .int .i64 a4, .int .i64 a5, .int .i64 a6, .int .i64 a7, .int .i64 a8, .string a9, .string a10, .int .i64 a11, .int .i64 a12, v13, v14] (0, 0) _ rfl BZ9.out Tryz.underlying29 rfl (by kernel_rfl)) rfl ?_
   exact ⟨[.int .i64 a0, .string N1, .string N2, .int .i64 a3, .int .i64 a4, .int .i64 a5, .int .i64 a6, .int .i64 a7, .int .i64 a8, .string a9, .string a10, .int .i64 a11, .int .i64 a12, v13, v14], by rw [hk.out]; rfl, rfl, HO.out N1 N2, fun _ => (by rw [hx.out]; exact Kd.M_mono _ (fun k _ => trivial) (Kd.M_lower _ S1.out (k29.M_move (fun k hk => ST9.out k hk.2.1 hk.2.2.1) (k29.M_bound (MM.out N1 N2))))), HB9.out⟩
theorem one_calls (all : Bool) (A : Option Addr) (cap : Nat) (rs : List Ru) (st : Int) (px : ByteArray) (w : World) (hr : Kd.C k45 w A rs.length rs) (hlen : rs.length ≤ 1000000) (hz : ∀ r ∈ rs, r.f1.size ≤ 1000) (hpx : px.size ≤ 1000000)
  (x : S29) (cs : List Value) (hx : k29.K w x cs) (s13 : x.f0.f12.length < 4398046511104) (s14 : x.f1.length < 4398046511104) (hnm : x.f0.f1.size ≤ 1000000) (hlk : x.f0.f2.size ≤ 1000000) :
  Calls Tryz.prog 42 #[.agg #[.bool all, .slice A rs.length cap, .int .i64 st, .string px], .agg cs.toArray] w fun e w' => OnePost w w' e (takenL all rs x.f0.f1 && oneOk st x) (oneX st px x) := by
 obtain ⟨A13, c13, A14, c14, rfl, e13, g13, e14, g14⟩ := k29_open hx
 cases hT : takenL all rs x.f0.f1 with
 | true => exact one_yes all A cap rs st px w hr hlen hz hpx _ _ _ _ _ _ _ _ _ _ _ _ _ A13 c13 _ A14 c14 _ e13 g13 e14 g14 s13 s14 hnm hlk hT
 | false =>
  refine (one_no all A cap rs st px w hr hlen hz _ _ _ _ _ _ _ _ _ _ _ _ _ A13 c13 x.f0.f12 A14 c14 x.f1 hnm hT).mono fun e w' h => ?_
  obtain ⟨rfl, hb⟩ := h
  exact ⟨_, rfl, rfl, all15 rfl rfl rfl rfl rfl rfl rfl rfl rfl rfl rfl rfl rfl rfl rfl, fun h => (by cases h), hb⟩
end Go.Proofs.YtejdmofljifkbaaGreatDoor.P
namespace Go.Proofs.YtejdmofljifkbaaGreatDoor.P
open Go.RowKit Go.Proofs.YtejdmofljifkbaaGreatDoorW.PrintWords Go.Proofs.YtejdmofljifkbaaGreatDoorW.PrintLast Go.Proofs.YtejdmofljifkbaaGreatDoorW.PrintMore
def stringslite_IndexByte.f (a0 : ByteArray) (a1 : Int) : Option (Int) := some (Lib.indexByte a0.data.toList a1.toNat.toUInt8)
theorem stringslite_IndexByte.calls (a0 : ByteArray) (a1 : Int) (r : Int) (w : World) (h : stringslite_IndexByte.f a0 a1 = some r) :
  Calls Tryz.prog 101 #[.string a0, .int .u8 a1] w fun e w' => e = .returned (.int .i64 r) ∧ Drawn0 w w' := by
 obtain rfl := Option.some.inj h
 exact (Tryz.stringslite_IndexByte a0 a1 w).mono fun e w' ⟨he, hw⟩ => ⟨he, hw ▸ Drawn0.refl _⟩
def strings_IndexByte.f (a0 : ByteArray) (a1 : Int) : Option (Int) := some (Lib.indexByte a0.data.toList a1.toNat.toUInt8)
theorem strings_IndexByte.calls (a0 : ByteArray) (a1 : Int) (r : Int) (w : World) (h : strings_IndexByte.f a0 a1 = some r) :
  Calls Tryz.prog 55 #[.string a0, .int .u8 a1] w fun e w' => e = .returned (.int .i64 r) ∧ Drawn0 w w' := by
 obtain rfl := Option.some.inj h
 exact (Tryz.strings_IndexByte a0 a1 w).mono fun e w' ⟨he, hw⟩ => ⟨he, hw ▸ Drawn0.refl _⟩
def strings_Cut.f (a0 : ByteArray) (a1 : ByteArray) : Option (ByteArray × ByteArray × Bool) :=
 if a0.size < 4294967281 then some (tx (Lib.cut a0.data.toList a1.data.toList).1, tx (Lib.cut a0.data.toList a1.data.toList).2.1, (Lib.cut a0.data.toList a1.data.toList).2.2) else none
theorem strings_Cut.calls (a0 : ByteArray) (a1 : ByteArray) (r1 : ByteArray) (r2 : ByteArray) (r3 : Bool) (w : World) (hG : Glob w) (h : strings_Cut.f a0 a1 = some (r1, r2, r3)) :
  Calls Tryz.prog 185 #[.string a0, .string a1] w fun e w' => e = .returned (.tuple #[.string r1, .string r2, .bool r3]) ∧ Below w.heap.size w w' := by
 unfold strings_Cut.f at h
 split at h
 ·rename_i hs
  simp only [Option.some.injEq, Prod.mk.injEq] at h
  obtain ⟨rfl, rfl, rfl⟩ := h
  obtain ⟨m, hm⟩ := hG.mx
  exact (Tryz.strings_Cut a0 a1 m w hs hm).mono fun e w' ⟨he, n, hw⟩ => ⟨he, hw ▸ (Drawn0.below ⟨⟨n, rfl⟩⟩)⟩
 ·cases h
def strings_Repeat.f (a0 : ByteArray) (a1 : Int) : Option (ByteArray) :=
 if 0 ≤ a1 ∧ a1 ≤ 9223372036854775807 ∧ a0.size * a1.toNat ≤ 140737488355328 then some (tx (Lib.repeatL a0.data.toList a1.toNat)) else none
theorem strings_Repeat.calls (a0 : ByteArray) (a1 : Int) (r : ByteArray) (w : World) (h : strings_Repeat.f a0 a1 = some r) :
  Calls Tryz.prog 68 #[.string a0, .int .i64 a1] w fun e w' => e = .returned (.string r) ∧ Below w.heap.size w w' := by
 unfold strings_Repeat.f at h
 split at h
 ·rename_i hs
  obtain rfl := Option.some.inj h
  obtain ⟨h0, h1, h2⟩ := hs
  obtain ⟨n, rfl⟩ := Int.eq_ofNat_of_zero_le h0
  exact Tryz.strings_Repeat a0 n w (by omega) h2
 ·cases h
def strconv_ParseInt.f (a0 : ByteArray) (a1 : Int) (a2 : Int) : Option (Int × Option Int) :=
 if a1 = 10 ∧ a2 = 64 ∧ a0.size ≤ 9223372036854775806 then (match Lib.parseIntB 64 a0.data.toList with | .ok v => some (v, none) | _ => none) else none
theorem strconv_ParseInt.calls (a0 : ByteArray) (a1 : Int) (a2 : Int) (r1 : Int) (r2 : Option Int) (w : World) (hG : Glob w) (h : strconv_ParseInt.f a0 a1 a2 = some (r1, r2)) :
  Calls Tryz.prog 187 #[.string a0, .int .i64 a1, .int .i64 a2] w fun e w' => e = .returned (.tuple #[.int .i64 r1, errW r2]) ∧ Below w.heap.size w w' := by
 unfold strconv_ParseInt.f at h
 split at h
 ·rename_i hs
  obtain ⟨rfl, rfl, h1⟩ := hs
  split at h
  ·rename_i v hv
   simp only [Option.some.injEq, Prod.mk.injEq] at h
   obtain ⟨rfl, rfl⟩ := h
   refine (Tryz.strconv_ParseInt_10_at64_ok a0 h1 v hv w).mono fun e w' ⟨he, hw⟩ => ⟨he, ?_⟩
   rcases hw with rfl | ⟨t, rfl⟩
   ·exact Below.refl _ _
   ·exact bytes_below (Below.refl _ _) (Nat.le_refl _) _ _
  ·cases h
 ·cases h
def utf8_DecodeRuneInString.f (a0 : ByteArray) : Option (Int × Int) := some (((Lib.decodeGo a0).1 : Int), ((Lib.decodeGo a0).2 : Int))
theorem utf8_DecodeRuneInString.calls (a0 : ByteArray) (r1 : Int) (r2 : Int) (w : World) (hG : Glob w) (h : utf8_DecodeRuneInString.f a0 = some (r1, r2)) :
  Calls Tryz.prog 189 #[.string a0] w fun e w' => e = .returned (.tuple #[.int .i32 r1, .int .i64 r2]) ∧ Below w.heap.size w w' := by
 simp only [utf8_DecodeRuneInString.f, Option.some.injEq, Prod.mk.injEq] at h
 obtain ⟨rfl, rfl⟩ := h
 exact Tryz.utf8_DecodeRuneInString a0 w hG.utf
theorem add_at (b o j : Nat) : (⟨b, o, none⟩ : Addr).add j = ⟨b, o + j, none⟩ := by
 unfold Addr.add
 split <;> simp_all
end Go.Proofs.YtejdmofljifkbaaGreatDoor.P
namespace Go.Proofs.YtejdmofljifkbaaGreatDoor.P
open Go.RowKit Go.Proofs.YtejdmofljifkbaaGreatDoorW.PrintWords Go.Proofs.YtejdmofljifkbaaGreatDoorW.PrintLast Go.Proofs.YtejdmofljifkbaaGreatDoorW.PrintMore
attribute [local go_sem] max2_int min2_int max_two min_two max_three min_three max_four min_four   -- for this text's walks alone
set_option linter.unusedVariables false
set_option linter.unusedSimpArgs false
def text_Clean.f (a0 : ByteArray) : Option (Bool) := (strings_IndexByte.f a0 0).bind fun t102 => (some (decide (t102 < 0)))
set_option maxHeartbeats 8000000 in
set_option maxRecDepth 100000 in
theorem text_Clean.calls (a0 : ByteArray) (r : Bool) (w : World) (h : text_Clean.f a0 = some r) :
  Calls Tryz.prog 102 #[.string a0] w fun e w' => e = .returned (.bool r) ∧ Drawn0 w w' := by
 have H : ((strings_IndexByte.f a0 0).bind fun t102 => (some (decide (t102 < 0)))) = some r := h
 clear h
 obtain ⟨t102, A20, H⟩ := Zk H
 have A2 := Aside0.mk A20
 clear A20
 obtain rfl := Option.some.inj H
 go_enter Tryz.func102, Tryz.ntmps102
 go_wp2_with (first | ((with_reducible refine gate_callee (f := 55) rfl ?_); refine ZL 4 Tryz.func55 #[.string a0, .int .u8 0] ?_; (with_reducible refine (strings_IndexByte.calls a0 0 t102 _ A2.out).mono ?_); rintro e w' ⟨rfl, ⟨nd, rfl⟩⟩; refine ⟨_, rfl, ?_⟩))
 go_ret
 exact ⟨Zr, Zd⟩
end Go.Proofs.YtejdmofljifkbaaGreatDoor.P
namespace Go.Proofs.YtejdmofljifkbaaGreatDoor.P
open Go.RowKit Go.Proofs.YtejdmofljifkbaaGreatDoorW.PrintWords Go.Proofs.YtejdmofljifkbaaGreatDoorW.PrintLast Go.Proofs.YtejdmofljifkbaaGreatDoorW.PrintMore
attribute [local go_sem] max2_int min2_int max_two min_two max_three min_three max_four min_four   -- for this text's walks alone
set_option linter.unusedVariables false
set_option linter.unusedSimpArgs false
def item_plain.f (a0 : ByteArray) : Option (Bool) := if (a0.size : Int) ≤ 65536 then ((text_Clean.f a0).bind fun t108 => (some t108)) else (some false)
set_option maxHeartbeats 8000000 in
set_option maxRecDepth 100000 in
theorem item_plain.calls (a0 : ByteArray) (r : Bool) (w : World) (h : item_plain.f a0 = some r) :
  Calls Tryz.prog 60 #[.string a0] w fun e w' => e = .returned (.bool r) ∧ Drawn0 w w' := by
 have H : (if (a0.size : Int) ≤ 65536 then ((text_Clean.f a0).bind fun t108 => (some t108)) else (some false)) = some r := h
 clear h
 by_cases c2 : (a0.size : Int) ≤ 65536
 ·rw [if_pos c2] at H
  have c2b0 : decide ((a0.size : Int) ≤ 65536) = true := decide_eq_true c2
  have c2b1 : decide (a0.size ≤ 65536) = true := decide_eq_true (by omega)
  clear c2
  obtain ⟨t108, A30, H⟩ := Zk H
  have A3 := Aside0.mk A30
  clear A30
  obtain rfl := Option.some.inj H
  go_enter Tryz.func60, Tryz.ntmps60
  go_wp2_with (first | (go_at_call 102; (with_reducible refine (text_Clean.calls a0 t108 _ A3.out).mono ?_); rintro e w' ⟨rfl, ⟨nd, rfl⟩⟩))
  go_ret
  exact ⟨Zr, Zd⟩
 ·rw [if_neg c2] at H
  have c2b0 : decide ((a0.size : Int) ≤ 65536) = false := decide_eq_false c2
  have c2b1 : decide (a0.size ≤ 65536) = false := decide_eq_false (by omega)
  clear c2
  obtain rfl := Option.some.inj H
  go_enter Tryz.func60, Tryz.ntmps60
  go_wp2
  go_ret
  exact ⟨Zr, Zd⟩
end Go.Proofs.YtejdmofljifkbaaGreatDoor.P
namespace Go.Proofs.YtejdmofljifkbaaGreatDoor.P
open Go.RowKit Go.Proofs.YtejdmofljifkbaaGreatDoorW.PrintWords Go.Proofs.YtejdmofljifkbaaGreatDoorW.PrintLast Go.Proofs.YtejdmofljifkbaaGreatDoorW.PrintMore
attribute [local go_sem] max2_int min2_int max_two min_two max_three min_three max_four min_four   -- for this text's walks alone
set_option linter.unusedVariables false
set_option linter.unusedSimpArgs false
def item_device.f (a0_0 : Int) (a0_1 : ByteArray) (a0_2 : ByteArray) (a0_3 : Int) (a0_4 : Int) (a0_5 : Int) (a0_6 : Int) (a0_7 : Int) (a0_8 : Int) (a0_9 : ByteArray) (a0_10 : ByteArray) (a0_11 : Int) (a0_12 : Int) (l0_13 : List (S65)) (a1 : Int) : Option (Bool) := if a1 = 0 then (some true) else (if a1 > 0 then (if a0_0 = 4 then (some true) else (some (a0_0 == 5))) else (some false))
set_option maxHeartbeats 8000000 in
set_option maxRecDepth 100000 in
theorem item_device.calls (a0_0 : Int) (a0_1 : ByteArray) (a0_2 : ByteArray) (a0_3 : Int) (a0_4 : Int) (a0_5 : Int) (a0_6 : Int) (a0_7 : Int) (a0_8 : Int) (a0_9 : ByteArray) (a0_10 : ByteArray) (a0_11 : Int) (a0_12 : Int) (A0_13 : Option Addr) (c0_13 : Nat) (l0_13 : List (S65)) (a1 : Int) (r : Bool) (w : World) (hr0_13 : Kd.C k65 w A0_13 l0_13.length l0_13) (hc0_13 : l0_13.length ≤ c0_13) (h : item_device.f a0_0 a0_1 a0_2 a0_3 a0_4 a0_5 a0_6 a0_7 a0_8 a0_9 a0_10 a0_11 a0_12 l0_13 a1 = some r) :
  Calls Tryz.prog 61 #[.agg #[.int .i64 a0_0, .string a0_1, .string a0_2, .int .i64 a0_3, .int .i64 a0_4, .int .i64 a0_5, .int .i64 a0_6, .int .i64 a0_7, .int .i64 a0_8, .string a0_9, .string a0_10, .int .i64 a0_11, .int .i64 a0_12, .slice A0_13 l0_13.length c0_13], .int .i64 a1] w fun e w' => e = .returned (.bool r) ∧ Below w.heap.size w w' := by
 have hu26 := Tryz.underlying26
 have HR0_13 := Aside0.mk hr0_13
 have HC0_13 := Aside0.mk hc0_13
 clear hr0_13 hc0_13
 have HB := Aside0.mk (Below.refl w.heap.size w)
 have H : (if a1 = 0 then (some true) else (if a1 > 0 then (if a0_0 = 4 then (some true) else (some (a0_0 == 5))) else (some false))) = some r := h
 clear h
 by_cases c3 : a1 = 0
 ·rw [if_pos c3] at H
  have c3b0 : (a1 == 0) = true := beq_iff_eq.mpr c3
  have c3b1 : (a1 != 0) = false := bne_eq_false_iff_eq.mpr c3
  clear c3
  obtain rfl := Option.some.inj H
  go_enter Tryz.func61, Tryz.ntmps61
  go_wp2_with (first | ((with_reducible refine gate_dst (N := 2) rfl ?_); refine Zbx (N := 2) (cs := #[.int .i64 a0_0, .string a0_1, .string a0_2, .int .i64 a0_3, .int .i64 a0_4, .int .i64 a0_5, .int .i64 a0_6, .int .i64 a0_7, .int .i64 a0_8, .string a0_9, .string a0_10, .int .i64 a0_11, .int .i64 a0_12, .slice A0_13 l0_13.length c0_13]) (t := 26) HB ?_; intro gb109 w4 HB BK109 GE109; have GW109 := GE109))
  go_ret
  exact ⟨Ze, Zhg HB GE109⟩
 ·rw [if_neg c3] at H
  have c3b0 : (a1 == 0) = false := beq_eq_false_iff_ne.mpr c3
  have c3b1 : (a1 != 0) = true := bne_iff_ne.mpr c3
  by_cases c5 : a1 > 0
  ·rw [if_pos c5] at H
   have c5b0 : decide (0 < a1) = true := decide_eq_true c5
   clear c5
   by_cases c6 : a0_0 = 4
   ·rw [if_pos c6] at H
    have c6b0 : (a0_0 == 4) = true := beq_iff_eq.mpr c6
    have c6b1 : (a0_0 != 4) = false := bne_eq_false_iff_eq.mpr c6
    clear c6
    obtain rfl := Option.some.inj H
    go_enter Tryz.func61, Tryz.ntmps61
    go_wp2_with (first | ((with_reducible refine gate_dst (N := 2) rfl ?_); refine Zbx (N := 2) (cs := #[.int .i64 a0_0, .string a0_1, .string a0_2, .int .i64 a0_3, .int .i64 a0_4, .int .i64 a0_5, .int .i64 a0_6, .int .i64 a0_7, .int .i64 a0_8, .string a0_9, .string a0_10, .int .i64 a0_11, .int .i64 a0_12, .slice A0_13 l0_13.length c0_13]) (t := 26) HB ?_; intro gb109 w7 HB BK109 GE109; have GW109 := GE109; have hcz8 := Zc14 BK109.out; have hfz8 := blk_frozen BK109.out))
    go_ret
    exact ⟨Ze, Zhg HB GE109⟩
   ·rw [if_neg c6] at H
    have c6b0 : (a0_0 == 4) = false := beq_eq_false_iff_ne.mpr c6
    have c6b1 : (a0_0 != 4) = true := bne_iff_ne.mpr c6
    obtain rfl := Option.some.inj H
    go_enter Tryz.func61, Tryz.ntmps61
    go_wp2_with (first | ((with_reducible refine gate_dst (N := 2) rfl ?_); refine Zbx (N := 2) (cs := #[.int .i64 a0_0, .string a0_1, .string a0_2, .int .i64 a0_3, .int .i64 a0_4, .int .i64 a0_5, .int .i64 a0_6, .int .i64 a0_7, .int .i64 a0_8, .string a0_9, .string a0_10, .int .i64 a0_11, .int .i64 a0_12, .slice A0_13 l0_13.length c0_13]) (t := 26) HB ?_; intro gb109 w9 HB BK109 GE109; have GW109 := GE109; have hcz10 := Zc14 BK109.out; have hfz10 := blk_frozen BK109.out))
    go_ret
    exact ⟨Ze, Zhg HB GE109⟩
  ·rw [if_neg c5] at H
   have c5b0 : decide (0 < a1) = false := decide_eq_false c5
   clear c5
   obtain rfl := Option.some.inj H
   go_enter Tryz.func61, Tryz.ntmps61
   go_wp2_with (first | ((with_reducible refine gate_dst (N := 2) rfl ?_); refine Zbx (N := 2) (cs := #[.int .i64 a0_0, .string a0_1, .string a0_2, .int .i64 a0_3, .int .i64 a0_4, .int .i64 a0_5, .int .i64 a0_6, .int .i64 a0_7, .int .i64 a0_8, .string a0_9, .string a0_10, .int .i64 a0_11, .int .i64 a0_12, .slice A0_13 l0_13.length c0_13]) (t := 26) HB ?_; intro gb109 w11 HB BK109 GE109; have GW109 := GE109))
   go_ret
   exact ⟨Ze, Zhg HB GE109⟩
end Go.Proofs.YtejdmofljifkbaaGreatDoor.P
namespace Go.Proofs.YtejdmofljifkbaaGreatDoor.P
open Go.RowKit Go.Proofs.YtejdmofljifkbaaGreatDoorW.PrintWords Go.Proofs.YtejdmofljifkbaaGreatDoorW.PrintLast Go.Proofs.YtejdmofljifkbaaGreatDoorW.PrintMore
attribute [local go_sem] max2_int min2_int max_two min_two max_three min_three max_four min_four   -- for this text's walks alone
set_option linter.unusedVariables false
set_option linter.unusedSimpArgs false
def stringslite_HasSuffix.f (a0 : ByteArray) (a1 : ByteArray) : Option (Bool) := if (a0.size : Int) ≥ (a1.size : Int) then (if 0 ≤ (wrap64 ((a0.size : Int) - (a1.size : Int))) then (if (wrap64 ((a0.size : Int) - (a1.size : Int))) ≤ (a0.size : Int) then (some ((a0.extract ((wrap64 ((a0.size : Int) - (a1.size : Int))) : Int).toNat a0.size).toList == a1.toList)) else (none)) else (none)) else (some false)
set_option maxHeartbeats 8000000 in
set_option maxRecDepth 100000 in
theorem stringslite_HasSuffix.calls (a0 : ByteArray) (a1 : ByteArray) (r : Bool) (w : World) (h : stringslite_HasSuffix.f a0 a1 = some r) :
  Calls Tryz.prog 96 #[.string a0, .string a1] w fun e w' => e = .returned (.bool r) ∧ Drawn0 w w' := by
 have H : (if (a0.size : Int) ≥ (a1.size : Int) then (if 0 ≤ (wrap64 ((a0.size : Int) - (a1.size : Int))) then (if (wrap64 ((a0.size : Int) - (a1.size : Int))) ≤ (a0.size : Int) then (some ((a0.extract ((wrap64 ((a0.size : Int) - (a1.size : Int))) : Int).toNat a0.size).toList == a1.toList)) else (none)) else (none)) else (some false)) = some r := h
 clear h
 by_cases c3 : (a0.size : Int) ≥ (a1.size : Int)
 ·rw [if_pos c3] at H
  have c3b0 : decide ((a1.size : Int) ≤ (a0.size : Int)) = true := decide_eq_true c3
  have c3b1 : decide (a1.size ≤ a0.size) = true := decide_eq_true (Int.ofNat_le.mp c3)
  clear c3
  obtain ⟨ji4, hji4⟩ : ∃ j_ : Int, (wrap64 ((a0.size : Int) - (a1.size : Int))) = j_ := ⟨_, rfl⟩
  replace H : (if 0 ≤ (ji4) then (if (ji4) ≤ (a0.size : Int) then (some ((a0.extract ((ji4) : Int).toNat a0.size).toList == a1.toList)) else (none)) else (none)) = some r := by first | (rw [hji4] at H; exact H) | (simp only [hji4] at H ⊢; exact H)
  have hji4w : (IntKind.i64.wrap ((a0.size : Int) - (a1.size : Int))) = ji4 := (i64_w _).trans hji4
  by_cases c5 : 0 ≤ (ji4)
  ·rw [if_pos c5] at H
   have c5b0 := eq_true c5
   have c5b1 : decide (0 ≤ (ji4)) = true := decide_eq_true c5
   clear c5
   by_cases c6 : (ji4) ≤ (a0.size : Int)
   ·rw [if_pos c6] at H
    have c6b0 := eq_true c6
    have c6b1 : decide ((ji4) ≤ (a0.size : Int)) = true := decide_eq_true c6
    clear c6
    obtain rfl := Option.some.inj H
    go_enter Tryz.func96, Tryz.ntmps96
    go_wp2
    go_ret
    exact ⟨by first | rfl | (simp; done) | (simp only [← hji4] <;> (first | rfl | simp)) | (simp [*]; done) | (simp [nil_bne]; done) | (simp [*, nil_bne]; done), Zd⟩
   ·rw [if_neg c6] at H
    exact absurd H (by simp)
  ·rw [if_neg c5] at H
   exact absurd H (by simp)
 ·rw [if_neg c3] at H
  have c3b0 : decide ((a1.size : Int) ≤ (a0.size : Int)) = false := decide_eq_false c3
  have c3b1 : decide (a1.size ≤ a0.size) = false := decide_eq_false (fun h => c3 (Int.ofNat_le.mpr h))
  clear c3
  obtain rfl := Option.some.inj H
  go_enter Tryz.func96, Tryz.ntmps96
  go_wp2
  go_ret
  exact ⟨Zr, Zd⟩
end Go.Proofs.YtejdmofljifkbaaGreatDoor.P
namespace Go.Proofs.YtejdmofljifkbaaGreatDoor.P
open Go.RowKit Go.Proofs.YtejdmofljifkbaaGreatDoorW.PrintWords Go.Proofs.YtejdmofljifkbaaGreatDoorW.PrintLast Go.Proofs.YtejdmofljifkbaaGreatDoorW.PrintMore
attribute [local go_sem] max2_int min2_int max_two min_two max_three min_three max_four min_four   -- for this text's walks alone
set_option linter.unusedVariables false
set_option linter.unusedSimpArgs false
def strings_HasSuffix.f (a0 : ByteArray) (a1 : ByteArray) : Option (Bool) := (stringslite_HasSuffix.f a0 a1).bind fun t101 => (some t101)
set_option maxHeartbeats 8000000 in
set_option maxRecDepth 100000 in
theorem strings_HasSuffix.calls (a0 : ByteArray) (a1 : ByteArray) (r : Bool) (w : World) (h : strings_HasSuffix.f a0 a1 = some r) :
  Calls Tryz.prog 50 #[.string a0, .string a1] w fun e w' => e = .returned (.bool r) ∧ Drawn0 w w' := by
 have H : ((stringslite_HasSuffix.f a0 a1).bind fun t101 => (some t101)) = some r := h
 clear h
 obtain ⟨t101, A30, H⟩ := Zk H
 have A3 := Aside0.mk A30
 clear A30
 obtain rfl := Option.some.inj H
 go_enter Tryz.func50, Tryz.ntmps50
 go_wp2_with (first | ((with_reducible refine gate_callee (f := 96) rfl ?_); refine ZL 7 Tryz.func96 #[.string a0, .string a1] ?_; (with_reducible refine (stringslite_HasSuffix.calls a0 a1 t101 _ A3.out).mono ?_); rintro e w' ⟨rfl, ⟨nd, rfl⟩⟩; refine ⟨_, rfl, ?_⟩))
 go_ret
 exact ⟨Zr, Zd⟩
end Go.Proofs.YtejdmofljifkbaaGreatDoor.P
namespace Go.Proofs.YtejdmofljifkbaaGreatDoor.P
open Go.RowKit Go.Proofs.YtejdmofljifkbaaGreatDoorW.PrintWords Go.Proofs.YtejdmofljifkbaaGreatDoorW.PrintLast Go.Proofs.YtejdmofljifkbaaGreatDoorW.PrintMore
attribute [local go_sem] max2_int min2_int max_two min_two max_three min_three max_four min_four   -- for this text's walks alone
set_option linter.unusedVariables false
set_option linter.unusedSimpArgs false
def item_Flag.f (a0 : Int) : Option (Int) := if a0 < 1 then (some 0) else (if a0 > 7 then (some 0) else (some ((48 + ((wrap64 (a0 - 1)) % 256)) % 256)))
set_option maxHeartbeats 8000000 in
set_option maxRecDepth 100000 in
theorem item_Flag.calls (a0 : Int) (r : Int) (w : World) (h : item_Flag.f a0 = some r) :
  Calls Tryz.prog 56 #[.int .i64 a0] w fun e w' => e = .returned (.int .u8 r) ∧ Drawn0 w w' := by
 have H : (if a0 < 1 then (some 0) else (if a0 > 7 then (some 0) else (some ((48 + ((wrap64 (a0 - 1)) % 256)) % 256)))) = some r := h
 clear h
 by_cases c2 : a0 < 1
 ·rw [if_pos c2] at H
  have c2b0 : decide (a0 < 1) = true := decide_eq_true c2
  clear c2
  obtain rfl := Option.some.inj H
  go_enter Tryz.func56, Tryz.ntmps56
  go_wp2
  go_ret
  exact ⟨Zr, Zd⟩
 ·rw [if_neg c2] at H
  have c2b0 : decide (a0 < 1) = false := decide_eq_false c2
  clear c2
  by_cases c3 : a0 > 7
  ·rw [if_pos c3] at H
   have c3b0 : decide (7 < a0) = true := decide_eq_true c3
   clear c3
   obtain rfl := Option.some.inj H
   go_enter Tryz.func56, Tryz.ntmps56
   go_wp2
   go_ret
   exact ⟨Zr, Zd⟩
  ·rw [if_neg c3] at H
   have c3b0 : decide (7 < a0) = false := decide_eq_false c3
   clear c3
   obtain rfl := Option.some.inj H
   go_enter Tryz.func56, Tryz.ntmps56
   go_wp2
   go_ret
   exact ⟨Zr, Zd⟩
end Go.Proofs.YtejdmofljifkbaaGreatDoor.P
namespace Go.Proofs.YtejdmofljifkbaaGreatDoor.P
open Go.RowKit Go.Proofs.YtejdmofljifkbaaGreatDoorW.PrintWords Go.Proofs.YtejdmofljifkbaaGreatDoorW.PrintLast Go.Proofs.YtejdmofljifkbaaGreatDoorW.PrintMore
attribute [local go_sem] max2_int min2_int max_two min_two max_three min_three max_four min_four   -- for this text's walks alone
set_option linter.unusedVariables false
set_option linter.unusedSimpArgs false
def item_named.f (a0 : ByteArray) : Option (Bool) := if a0.toList = ([] : List UInt8) then (some false) else (if (a0.size : Int) ≤ 65536 then ((text_Clean.f a0).bind fun t103 => (some t103)) else (some false))
set_option maxHeartbeats 8000000 in
set_option maxRecDepth 100000 in
theorem item_named.calls (a0 : ByteArray) (r : Bool) (w : World) (h : item_named.f a0 = some r) :
  Calls Tryz.prog 57 #[.string a0] w fun e w' => e = .returned (.bool r) ∧ Drawn0 w w' := by
 have H : (if a0.toList = ([] : List UInt8) then (some false) else (if (a0.size : Int) ≤ 65536 then ((text_Clean.f a0).bind fun t103 => (some t103)) else (some false))) = some r := h
 clear h
 by_cases c2 : a0.toList = ([] : List UInt8)
 ·rw [if_pos c2] at H
  have c2b0 : (a0.toList == ([] : List UInt8)) = true := beq_iff_eq.mpr c2
  have c2b1 : (a0.toList != ([] : List UInt8)) = false := bne_eq_false_iff_eq.mpr c2
  clear c2
  obtain rfl := Option.some.inj H
  go_enter Tryz.func57, Tryz.ntmps57
  go_wp2
  go_ret
  exact ⟨Zr, Zd⟩
 ·rw [if_neg c2] at H
  have c2b0 : (a0.toList == ([] : List UInt8)) = false := beq_eq_false_iff_ne.mpr c2
  have c2b1 : (a0.toList != ([] : List UInt8)) = true := bne_iff_ne.mpr c2
  by_cases c3 : (a0.size : Int) ≤ 65536
  ·rw [if_pos c3] at H
   have c3b0 : decide ((a0.size : Int) ≤ 65536) = true := decide_eq_true c3
   have c3b1 : decide (a0.size ≤ 65536) = true := decide_eq_true (by omega)
   clear c3
   obtain ⟨t103, A40, H⟩ := Zk H
   have A4 := Aside0.mk A40
   clear A40
   obtain rfl := Option.some.inj H
   go_enter Tryz.func57, Tryz.ntmps57
   go_wp2_with (first | (go_at_call 102; (with_reducible refine (text_Clean.calls a0 t103 _ A4.out).mono ?_); rintro e w' ⟨rfl, ⟨nd, rfl⟩⟩))
   go_ret
   exact ⟨Zr, Zd⟩
  ·rw [if_neg c3] at H
   have c3b0 : decide ((a0.size : Int) ≤ 65536) = false := decide_eq_false c3
   have c3b1 : decide (a0.size ≤ 65536) = false := decide_eq_false (by omega)
   clear c3
   obtain rfl := Option.some.inj H
   go_enter Tryz.func57, Tryz.ntmps57
   go_wp2
   go_ret
   exact ⟨Zr, Zd⟩
end Go.Proofs.YtejdmofljifkbaaGreatDoor.P
namespace Go.Proofs.YtejdmofljifkbaaGreatDoor.P
open Go.RowKit Go.Proofs.YtejdmofljifkbaaGreatDoorW.PrintWords Go.Proofs.YtejdmofljifkbaaGreatDoorW.PrintLast Go.Proofs.YtejdmofljifkbaaGreatDoorW.PrintMore
attribute [local go_sem] max2_int min2_int max_two min_two max_three min_three max_four min_four   -- for this text's walks alone
set_option linter.unusedVariables false
set_option linter.unusedSimpArgs false
def item_link.f (a0_0 : Int) (a0_1 : ByteArray) (a0_2 : ByteArray) (a0_3 : Int) (a0_4 : Int) (a0_5 : Int) (a0_6 : Int) (a0_7 : Int) (a0_8 : Int) (a0_9 : ByteArray) (a0_10 : ByteArray) (a0_11 : Int) (a0_12 : Int) (l0_13 : List (S65)) : Option (Bool) := if a0_0 = 2 then ((item_named.f a0_2).bind fun t105 => (some t105)) else (if a0_0 = 3 then ((item_named.f a0_2).bind fun t106 => (some t106)) else (some (a0_2.toList == ([] : List UInt8))))
set_option maxHeartbeats 8000000 in
set_option maxRecDepth 100000 in
theorem item_link.calls (a0_0 : Int) (a0_1 : ByteArray) (a0_2 : ByteArray) (a0_3 : Int) (a0_4 : Int) (a0_5 : Int) (a0_6 : Int) (a0_7 : Int) (a0_8 : Int) (a0_9 : ByteArray) (a0_10 : ByteArray) (a0_11 : Int) (a0_12 : Int) (A0_13 : Option Addr) (c0_13 : Nat) (l0_13 : List (S65)) (r : Bool) (w : World) (hr0_13 : Kd.C k65 w A0_13 l0_13.length l0_13) (hc0_13 : l0_13.length ≤ c0_13) (h : item_link.f a0_0 a0_1 a0_2 a0_3 a0_4 a0_5 a0_6 a0_7 a0_8 a0_9 a0_10 a0_11 a0_12 l0_13 = some r) :
  Calls Tryz.prog 58 #[.agg #[.int .i64 a0_0, .string a0_1, .string a0_2, .int .i64 a0_3, .int .i64 a0_4, .int .i64 a0_5, .int .i64 a0_6, .int .i64 a0_7, .int .i64 a0_8, .string a0_9, .string a0_10, .int .i64 a0_11, .int .i64 a0_12, .slice A0_13 l0_13.length c0_13]] w fun e w' => e = .returned (.bool r) ∧ Below w.heap.size w w' := by
 have hu26 := Tryz.underlying26
 have HR0_13 := Aside0.mk hr0_13
 have HC0_13 := Aside0.mk hc0_13
 clear hr0_13 hc0_13
 have HB := Aside0.mk (Below.refl w.heap.size w)
 have H : (if a0_0 = 2 then ((item_named.f a0_2).bind fun t105 => (some t105)) else (if a0_0 = 3 then ((item_named.f a0_2).bind fun t106 => (some t106)) else (some (a0_2.toList == ([] : List UInt8))))) = some r := h
 clear h
 by_cases c2 : a0_0 = 2
 ·rw [if_pos c2] at H
  have c2b0 : (a0_0 == 2) = true := beq_iff_eq.mpr c2
  have c2b1 : (a0_0 != 2) = false := bne_eq_false_iff_eq.mpr c2
  clear c2
  obtain ⟨t105, A30, H⟩ := Zk H
  have A3 := Aside0.mk A30
  clear A30
  obtain rfl := Option.some.inj H
  go_enter Tryz.func58, Tryz.ntmps58
  go_wp2_with (first | ((with_reducible refine gate_dst (N := 1) rfl ?_); refine Zbx (N := 1) (cs := #[.int .i64 a0_0, .string a0_1, .string a0_2, .int .i64 a0_3, .int .i64 a0_4, .int .i64 a0_5, .int .i64 a0_6, .int .i64 a0_7, .int .i64 a0_8, .string a0_9, .string a0_10, .int .i64 a0_11, .int .i64 a0_12, .slice A0_13 l0_13.length c0_13]) (t := 26) HB ?_; intro gb104 w4 HB BK104 GE104; have GW104 := GE104; have hcz5 := Zc14 BK104.out; have hfz5 := blk_frozen BK104.out) | ((with_reducible refine gate_callee (f := 57) rfl ?_); refine ZL 13 Tryz.func57 #[.string a0_2] ?_; (with_reducible refine (item_named.calls a0_2 t105 _ A3.out).mono ?_); rintro e w' ⟨rfl, ⟨nd, rfl⟩⟩; refine ⟨_, rfl, ?_⟩))
  go_ret
  exact ⟨Ze, Zhg HB GE104⟩
 ·rw [if_neg c2] at H
  have c2b0 : (a0_0 == 2) = false := beq_eq_false_iff_ne.mpr c2
  have c2b1 : (a0_0 != 2) = true := bne_iff_ne.mpr c2
  by_cases c6 : a0_0 = 3
  ·rw [if_pos c6] at H
   have c6b0 : (a0_0 == 3) = true := beq_iff_eq.mpr c6
   have c6b1 : (a0_0 != 3) = false := bne_eq_false_iff_eq.mpr c6
   clear c6
   obtain ⟨t106, A70, H⟩ := Zk H
   have A7 := Aside0.mk A70
   clear A70
   obtain rfl := Option.some.inj H
   go_enter Tryz.func58, Tryz.ntmps58
   go_wp2_with (first | ((with_reducible refine gate_dst (N := 1) rfl ?_); refine Zbx (N := 1) (cs := #[.int .i64 a0_0, .string a0_1, .string a0_2, .int .i64 a0_3, .int .i64 a0_4, .int .i64 a0_5, .int .i64 a0_6, .int .i64 a0_7, .int .i64 a0_8, .string a0_9, .string a0_10, .int .i64 a0_11, .int .i64 a0_12, .slice A0_13 l0_13.length c0_13]) (t := 26) HB ?_; intro gb104 w8 HB BK104 GE104; have GW104 := GE104; have hcz9 := Zc14 BK104.out; have hfz9 := blk_frozen BK104.out) | ((with_reducible refine gate_callee (f := 57) rfl ?_); refine ZL 13 Tryz.func57 #[.string a0_2] ?_; (with_reducible refine (item_named.calls a0_2 t106 _ A7.out).mono ?_); rintro e w' ⟨rfl, ⟨nd, rfl⟩⟩; refine ⟨_, rfl, ?_⟩))
   go_ret
   exact ⟨Ze, Zhg HB GE104⟩
  ·rw [if_neg c6] at H
   have c6b0 : (a0_0 == 3) = false := beq_eq_false_iff_ne.mpr c6
   have c6b1 : (a0_0 != 3) = true := bne_iff_ne.mpr c6
   obtain rfl := Option.some.inj H
   go_enter Tryz.func58, Tryz.ntmps58
   go_wp2_with (first | ((with_reducible refine gate_dst (N := 1) rfl ?_); refine Zbx (N := 1) (cs := #[.int .i64 a0_0, .string a0_1, .string a0_2, .int .i64 a0_3, .int .i64 a0_4, .int .i64 a0_5, .int .i64 a0_6, .int .i64 a0_7, .int .i64 a0_8, .string a0_9, .string a0_10, .int .i64 a0_11, .int .i64 a0_12, .slice A0_13 l0_13.length c0_13]) (t := 26) HB ?_; intro gb104 w10 HB BK104 GE104; have GW104 := GE104; have hcz11 := Zc14 BK104.out; have hfz11 := blk_frozen BK104.out))
   go_ret
   exact ⟨Ze, Zhg HB GE104⟩
end Go.Proofs.YtejdmofljifkbaaGreatDoor.P
namespace Go.Proofs.YtejdmofljifkbaaGreatDoor.P
open Go.RowKit Go.Proofs.YtejdmofljifkbaaGreatDoorW.PrintWords Go.Proofs.YtejdmofljifkbaaGreatDoorW.PrintLast Go.Proofs.YtejdmofljifkbaaGreatDoorW.PrintMore
attribute [local go_sem] max2_int min2_int max_two min_two max_three min_three max_four min_four   -- for this text's walks alone
set_option linter.unusedVariables false
set_option linter.unusedSimpArgs false
def dec_Right.f (a0_0 : Int) (a0_1 : Int) : Option (Bool) := if a0_1 ≥ 0 then (some (decide (a0_1 < 1000000000))) else (some false)
set_option maxHeartbeats 8000000 in
set_option maxRecDepth 100000 in
theorem dec_Right.calls (a0_0 : Int) (a0_1 : Int) (r : Bool) (w : World) (h : dec_Right.f a0_0 a0_1 = some r) :
  Calls Tryz.prog 59 #[.agg #[.int .i64 a0_0, .int .i64 a0_1]] w fun e w' => e = .returned (.bool r) ∧ Below w.heap.size w w' := by
 have hu23 := Tryz.underlying23
 have HB := Aside0.mk (Below.refl w.heap.size w)
 have H : (if a0_1 ≥ 0 then (some (decide (a0_1 < 1000000000))) else (some false)) = some r := h
 clear h
 by_cases c2 : a0_1 ≥ 0
 ·rw [if_pos c2] at H
  have c2b0 : decide (0 ≤ a0_1) = true := decide_eq_true c2
  clear c2
  obtain rfl := Option.some.inj H
  go_enter Tryz.func59, Tryz.ntmps59
  go_wp2_with (first | ((with_reducible refine gate_dst (N := 1) rfl ?_); refine Zbx (N := 1) (cs := #[.int .i64 a0_0, .int .i64 a0_1]) (t := 23) HB ?_; intro gb107 w3 HB BK107 GE107; have GW107 := GE107; have hcz4 := Zc2 BK107.out; have hfz4 := blk_frozen BK107.out))
  go_ret
  exact ⟨Ze, Zhg HB GE107⟩
 ·rw [if_neg c2] at H
  have c2b0 : decide (0 ≤ a0_1) = false := decide_eq_false c2
  clear c2
  obtain rfl := Option.some.inj H
  go_enter Tryz.func59, Tryz.ntmps59
  go_wp2_with (first | ((with_reducible refine gate_dst (N := 1) rfl ?_); refine Zbx (N := 1) (cs := #[.int .i64 a0_0, .int .i64 a0_1]) (t := 23) HB ?_; intro gb107 w5 HB BK107 GE107; have GW107 := GE107; have hcz6 := Zc2 BK107.out; have hfz6 := blk_frozen BK107.out))
  go_ret
  exact ⟨Ze, Zhg HB GE107⟩
end Go.Proofs.YtejdmofljifkbaaGreatDoor.P
namespace Go.Proofs.YtejdmofljifkbaaGreatDoor.P
open Go.RowKit Go.Proofs.YtejdmofljifkbaaGreatDoorW.PrintWords Go.Proofs.YtejdmofljifkbaaGreatDoorW.PrintLast Go.Proofs.YtejdmofljifkbaaGreatDoorW.PrintMore
attribute [local go_sem] max2_int min2_int max_two min_two max_three min_three max_four min_four   -- for this text's walks alone
set_option linter.unusedVariables false
set_option linter.unusedSimpArgs false
def utf_wrong.f (a0 : ByteArray) (a1 : Int) (a2 : Int) : Option (Bool) := if a2 = 65533 then (if 0 ≤ a1 then (if a1 ≤ (a0.size : Int) then ((utf8_DecodeRuneInString.f (a0.extract (a1 : Int).toNat a0.size)).bind fun bt110 => (some (bt110.2 == 1))) else (none)) else (none)) else (some false)
set_option maxHeartbeats 8000000 in
set_option maxRecDepth 100000 in
theorem utf_wrong.calls (a0 : ByteArray) (a1 : Int) (a2 : Int) (r : Bool) (w : World) (hG : Glob w) (h : utf_wrong.f a0 a1 a2 = some r) :
  Calls Tryz.prog 179 #[.string a0, .int .i64 a1, .int .i32 a2] w fun e w' => e = .returned (.bool r) ∧ Below w.heap.size w w' := by
 have HG := Aside0.mk hG; clear hG
 have HB := Aside0.mk (Below.refl w.heap.size w)
 have H : (if a2 = 65533 then (if 0 ≤ a1 then (if a1 ≤ (a0.size : Int) then ((utf8_DecodeRuneInString.f (a0.extract (a1 : Int).toNat a0.size)).bind fun bt110 => (some (bt110.2 == 1))) else (none)) else (none)) else (some false)) = some r := h
 clear h
 by_cases c4 : a2 = 65533
 ·rw [if_pos c4] at H
  have c4b0 : (a2 == 65533) = true := beq_iff_eq.mpr c4
  have c4b1 : (a2 != 65533) = false := bne_eq_false_iff_eq.mpr c4
  clear c4
  by_cases c5 : 0 ≤ a1
  ·rw [if_pos c5] at H
   have c5b0 := eq_true c5
   have c5b1 : decide (0 ≤ a1) = true := decide_eq_true c5
   clear c5
   by_cases c6 : a1 ≤ (a0.size : Int)
   ·rw [if_pos c6] at H
    have c6b0 := eq_true c6
    have c6b1 : decide (a1 ≤ (a0.size : Int)) = true := decide_eq_true c6
    clear c6
    obtain ⟨⟨t110, t111⟩, A70, H⟩ := Zk H
    try dsimp only at H
    have A7 := Aside0.mk A70
    clear A70
    obtain rfl := Option.some.inj H
    go_enter Tryz.func179, Tryz.ntmps179
    go_wp2_with (first | ((with_reducible refine gate_callee (f := 189) rfl ?_); refine ZL 15 Tryz.func189 #[.string (a0.extract (a1 : Int).toNat a0.size)] ?_; (with_reducible refine (utf8_DecodeRuneInString.calls (a0.extract (a1 : Int).toNat a0.size) t110 t111 _ ?side1 A7.out).mono ?_); (case side1 => exact ZG HG HB); rintro e w8 ⟨rfl, hb⟩; refine ⟨_, rfl, ?_⟩; replace HB := Zs HB hb; try clear hb))
    go_ret
    exact ⟨Ze, Zh HB⟩
   ·rw [if_neg c6] at H
    exact absurd H (by simp)
  ·rw [if_neg c5] at H
   exact absurd H (by simp)
 ·rw [if_neg c4] at H
  have c4b0 : (a2 == 65533) = false := beq_eq_false_iff_ne.mpr c4
  have c4b1 : (a2 != 65533) = true := bne_iff_ne.mpr c4
  obtain rfl := Option.some.inj H
  go_enter Tryz.func179, Tryz.ntmps179
  go_wp2
  go_ret
  exact ⟨Ze, Zh HB⟩
end Go.Proofs.YtejdmofljifkbaaGreatDoor.P
namespace Go.Proofs.YtejdmofljifkbaaGreatDoor.P
open Go.RowKit Go.Proofs.YtejdmofljifkbaaGreatDoorW.PrintWords Go.Proofs.YtejdmofljifkbaaGreatDoorW.PrintLast Go.Proofs.YtejdmofljifkbaaGreatDoorW.PrintMore
def badAt : Nat → List UInt8 → Nat → Int
 | 0, _, _ => -1
 | _ + 1, [], _ => -1
 | f + 1, c :: t, n => if Lib.decodeL (c :: t) = (65533, 1) then n else badAt f ((c :: t).drop (Lib.decodeL (c :: t)).2) (n + (Lib.decodeL (c :: t)).2)
def utf_First.f (a0 : ByteArray) : Option (Int) := if a0.size ≤ 281474976710656 then some (badAt (a0.size + 1) a0.data.toList 0) else none
theorem decode_pos {s : ByteArray} {n : Nat} {l : List UInt8} (h : Pos s n l) : Utf8.decode s n = Lib.decodeL l := by rw [← h.dr, Lib.decodeL_drop]
theorem decodeL_ge (l : List UInt8) : 1 ≤ (Lib.decodeL l).2 := by
 have := Lib.decodeL_drop (tx l) 0
 rw [tx_data, List.drop_zero] at this
 rw [this, Lib.decode_at]
 exact Lib.decodeN_ge1 ..
theorem wrong_f (s : ByteArray) (n : Nat) (c : UInt8) (t : List UInt8) (h : Pos s n (c :: t)) :
  utf_wrong.f s (n : Int) ((Lib.decodeL (c :: t)).1 : Int) = some (decide (Lib.decodeL (c :: t) = (65533, 1))) := by
 have hlt := h.lt
 have hg : Lib.decodeGo (s.extract n s.size) = Lib.decodeL (c :: t) := by
  unfold Lib.decodeGo
  rw [if_neg (by rw [ByteArray.size_extract]; omega), Lib.tail_decode, Nat.add_zero, decode_pos h]
 unfold utf_wrong.f
 obtain ⟨⟨r, k⟩, hd⟩ : ∃ p, Lib.decodeL (c :: t) = p := ⟨_, rfl⟩
 rw [hd] at hg ⊢
 by_cases h1 : r = 65533
 ·subst h1
  rw [if_pos (by simp), if_pos (by omega), if_pos (by omega), Int.toNat_natCast]
  simp only [utf8_DecodeRuneInString.f, hg, Option.bind_some, Option.some.injEq]
  rw [Bool.eq_iff_iff]
  simp
  omega
 ·rw [if_neg (by simp; omega)]
  simp [h1]
theorem iterAt_below {w wr : World} (h : Below w.heap.size w wr) (s : ByteArray) (p : Nat) : Below w.heap.size w (wr.iterAt w.heap.size s p) := Lib.below_iterAt h (Nat.le_refl _) s p
theorem iter_heap0 (w : World) (s : ByteArray) : (w.iter s 0).heap[w.heap.size]? = some (.stringIter s 0) := World.iter_heap w s 0
set_option maxRecDepth 100000 in
set_option maxHeartbeats 1600000 in
theorem utf_First.calls (a0 : ByteArray) (r : Int) (w : World) (hG : Glob w) (h : utf_First.f a0 = some r) :
  Calls Tryz.prog 170 #[.string a0] w fun e w' => e = .returned (.int .i64 r) ∧ Below w.heap.size w w' := by
 unfold utf_First.f at h
 split at h
 case isFalse => cases h
 rename_i hs
 obtain rfl := Option.some.inj h
 obtain ⟨R, hR⟩ : ∃ R, badAt (a0.size + 1) a0.data.toList 0 = R := ⟨_, rfl⟩
 rw [hR]
 have HG := Lib.hid hG
 have hp0 := Pos.zero a0
 have hl0 : a0.data.toList.length = a0.size := data_length a0
 have HR := Lib.hid hR
 have HP0 := Lib.hid hp0
 have HL0 := Lib.hid hl0
 clear h hG hR hp0 hl0
 go_enter Tryz.func170, Tryz.ntmps170
 go_wp2_with fail
 go_loopg [] (a0.size) (fun gk wr => ∃ (n : Nat) (l : List UInt8), Aside0 (Pos a0 n l) ∧ Aside0 (wr.heap[w.heap.size]? = some (.stringIter a0 n)) ∧ Aside0 (Below w.heap.size w wr) ∧ Aside0 (badAt (gk + 1) l n = R) ∧ Aside0 (l.length ≤ gk))
 case atStart => exact ⟨0, _, ⟨HP0.out⟩, ⟨iter_heap0 w a0⟩, ⟨below_alloc (Below.refl _ _) _⟩, ⟨HR.out⟩, ⟨by rw [HL0.out]; exact Nat.le_refl _⟩⟩
 case round =>
  clear HP0 HR HL0
  obtain ⟨n, l, HP, HI, HB, HR, HK⟩ := hrel
  cases l with
  | nil =>
   have hn : ¬ n < a0.size := by have := HP.out.len; simp at this; omega
   have hnx : ∀ ty, (Instr.next (.pointer (some ⟨w.heap.size, 0, none⟩)) true ty).run Tryz.prog wr = _ := fun ty => Lib.run_next_end_at wr w.heap.size a0 n ty HI.out hn
   clear hn
   go_wp2
   go_ret
   exact ⟨by rw [← HR.out]; rfl, HB.out⟩
  | cons c t =>
   have hn : n < a0.size := HP.out.lt
   have hde := decode_pos HP.out
   have hnx : ∀ ty, (Instr.next (.pointer (some ⟨w.heap.size, 0, none⟩)) true ty).run Tryz.prog wr = .ok (.tuple #[.bool true, .int .i64 n, .int .i32 (Lib.decodeL (c :: t)).1]) (wr.iterAt w.heap.size a0 (n + (Lib.decodeL (c :: t)).2)) := fun ty => by
    rw [← hde]
    exact Lib.run_next_any_at wr w.heap.size a0 n ty HI.out hn
   have HW := Lib.hid (wrong_f a0 n c t HP.out)
   have HB2 := Lib.hid (iterAt_below HB.out a0 (n + (Lib.decodeL (c :: t)).2))
   have HI2 := Lib.hid (Lib.iterAt_heap wr w.heap.size a0 n (n + (Lib.decodeL (c :: t)).2) HI.out)
   have HS := Lib.hid (show w.heap.size < wr.heap.size from (Array.getElem?_eq_some_iff.1 HI.out).1)
   clear hde hn HI HB
   obtain ⟨R1, hR1⟩ : ∃ R1, (Lib.decodeL (c :: t)).1 = R1 := ⟨_, rfl⟩
   obtain ⟨K1, hK1⟩ : ∃ K1, (Lib.decodeL (c :: t)).2 = K1 := ⟨_, rfl⟩
   rw [hR1] at hnx HW
   rw [hK1] at hnx HB2 HI2
   have HR1 := Lib.hid hR1
   have HK1 := Lib.hid hK1
   clear hR1 hK1
   cases hb : decide (Lib.decodeL (c :: t) = (65533, 1)) with
   | true =>
    have HBD := Lib.hid hb
    rw [hb] at HW
    clear hb
    go_wp2_with fail
    refine (utf_wrong.calls a0 n R1 true _ (Glob.below HG.out HB2.out) HW.out).mono ?_
    rintro e w2 ⟨rfl, hb2⟩
    have HB3 := Lib.hid (below_step HB2.out hb2)
    clear hb2
    have hres : (n : Int) = R := by
     rw [← HR.out]
     simp only [badAt]
     rw [if_pos (by simpa using HBD.out)]
    have HRES := Lib.hid hres
    clear hres
    go_wp2
    go_ret
    exact ⟨by rw [HRES.out]; rfl, HB3.out⟩
   | false =>
    have HBD := Lib.hid hb
    rw [hb] at HW
    clear hb
    obtain ⟨g, rfl⟩ : ∃ g, gk = g + 1 := ⟨gk - 1, by have := HK.out; simp at this; omega⟩
    go_wp2_with fail
    refine (utf_wrong.calls a0 n R1 false _ (Glob.below HG.out HB2.out) HW.out).mono ?_
    rintro e w2 ⟨rfl, hb2⟩
    have HB3 := Lib.hid (below_step HB2.out hb2)
    have HI3 := Lib.hid ((hb2.block _ ((Array.getElem?_eq_some_iff.1 HI2.out).1)).trans HI2.out)
    clear hb2
    have hle := Lib.decodeL_le (c :: t) (by simp)
    have hge := decodeL_ge (c :: t)
    rw [HK1.out] at hle hge
    have hlen := HP.out.len
    have hkk := HK.out
    have hpos : Pos a0 (n + K1) ((c :: t).drop K1) := ⟨by rw [← List.drop_drop, HP.out.dr], by omega⟩
    have hres : badAt (g + 1) ((c :: t).drop K1) (n + K1) = R := by
     rw [← HR.out]
     simp only [badAt]
     rw [if_neg (by simpa using HBD.out), HK1.out]
    have HPOS := Aside0.mk hpos
    have HRES := Aside0.mk hres
    have HLL : Aside0 (((c :: t).drop K1).length ≤ g) := ⟨by rw [List.length_drop]; omega⟩
    clear hpos hres hle hge hlen hkk
    go_wp2
    go_roundg g
    case measure => omega
    case rel => exact ⟨n + K1, _, HPOS, ⟨HI3.out⟩, ⟨HB3.out⟩, HRES, HLL⟩
end Go.Proofs.YtejdmofljifkbaaGreatDoor.P
namespace Go.Proofs.YtejdmofljifkbaaGreatDoor.P
open Go.RowKit Go.Proofs.YtejdmofljifkbaaGreatDoorW.PrintWords Go.Proofs.YtejdmofljifkbaaGreatDoorW.PrintLast Go.Proofs.YtejdmofljifkbaaGreatDoorW.PrintMore
attribute [local go_sem] max2_int min2_int max_two min_two max_three min_three max_four min_four   -- for this text's walks alone
set_option linter.unusedVariables false
set_option linter.unusedSimpArgs false
def utf_Right.f (a0 : ByteArray) : Option (Bool) := (utf_First.f a0).bind fun t112 => (some (decide (t112 < 0)))
set_option maxHeartbeats 8000000 in
set_option maxRecDepth 100000 in
theorem utf_Right.calls (a0 : ByteArray) (r : Bool) (w : World) (hG : Glob w) (h : utf_Right.f a0 = some r) :
  Calls Tryz.prog 156 #[.string a0] w fun e w' => e = .returned (.bool r) ∧ Below w.heap.size w w' := by
 have HG := Aside0.mk hG; clear hG
 have HB := Aside0.mk (Below.refl w.heap.size w)
 have H : ((utf_First.f a0).bind fun t112 => (some (decide (t112 < 0)))) = some r := h
 clear h
 obtain ⟨t112, A20, H⟩ := Zk H
 have A2 := Aside0.mk A20
 clear A20
 obtain rfl := Option.some.inj H
 go_enter Tryz.func156, Tryz.ntmps156
 go_wp2_with (first | ((with_reducible refine gate_callee (f := 170) rfl ?_); refine ZL 4 Tryz.func170 #[.string a0] ?_; (with_reducible refine (utf_First.calls a0 t112 _ ?side1 A2.out).mono ?_); (case side1 => exact ZG HG HB); rintro e w3 ⟨rfl, hb⟩; refine ⟨_, rfl, ?_⟩; replace HB := Zs HB hb; try clear hb))
 go_ret
 exact ⟨Ze, Zh HB⟩
end Go.Proofs.YtejdmofljifkbaaGreatDoor.P
namespace Go.Proofs.YtejdmofljifkbaaGreatDoor.P
open Go.RowKit Go.Proofs.YtejdmofljifkbaaGreatDoorW.PrintWords Go.Proofs.YtejdmofljifkbaaGreatDoorW.PrintLast Go.Proofs.YtejdmofljifkbaaGreatDoorW.PrintMore
attribute [local go_sem] max2_int min2_int max_two min_two max_three min_three max_four min_four   -- for this text's walks alone
set_option linter.unusedVariables false
set_option linter.unusedSimpArgs false
def pax_clean.f (a0 : ByteArray) : Option (Bool) := (strings_IndexByte.f a0 0).bind fun t113 => (some (decide (t113 < 0)))
set_option maxHeartbeats 8000000 in
set_option maxRecDepth 100000 in
theorem pax_clean.calls (a0 : ByteArray) (r : Bool) (w : World) (h : pax_clean.f a0 = some r) :
  Calls Tryz.prog 172 #[.string a0] w fun e w' => e = .returned (.bool r) ∧ Drawn0 w w' := by
 have H : ((strings_IndexByte.f a0 0).bind fun t113 => (some (decide (t113 < 0)))) = some r := h
 clear h
 obtain ⟨t113, A20, H⟩ := Zk H
 have A2 := Aside0.mk A20
 clear A20
 obtain rfl := Option.some.inj H
 go_enter Tryz.func172, Tryz.ntmps172
 go_wp2_with (first | ((with_reducible refine gate_callee (f := 55) rfl ?_); refine ZL 4 Tryz.func55 #[.string a0, .int .u8 0] ?_; (with_reducible refine (strings_IndexByte.calls a0 0 t113 _ A2.out).mono ?_); rintro e w' ⟨rfl, ⟨nd, rfl⟩⟩; refine ⟨_, rfl, ?_⟩))
 go_ret
 exact ⟨Zr, Zd⟩
end Go.Proofs.YtejdmofljifkbaaGreatDoor.P
namespace Go.Proofs.YtejdmofljifkbaaGreatDoor.P
open Go.RowKit Go.Proofs.YtejdmofljifkbaaGreatDoorW.PrintWords Go.Proofs.YtejdmofljifkbaaGreatDoorW.PrintLast Go.Proofs.YtejdmofljifkbaaGreatDoorW.PrintMore
attribute [local go_sem] max2_int min2_int max_two min_two max_three min_three max_four min_four   -- for this text's walks alone
set_option linter.unusedVariables false
set_option linter.unusedSimpArgs false
def dec_digits.l0 : Nat → ByteArray → Int → Int → Option (Bool)
 | 0, _, _, _ => none
 | k + 1, x0, x5, x6 => if x6 < x5 then (if 0 ≤ x6 then (if x6 < (x0.size : Int) then (if (bt x0 x6) < 48 then (some false) else (if (bt x0 x6) > 57 then (some false) else (dec_digits.l0 k x0 x5 (wrap64 (x6 + 1))))) else (none)) else (none)) else (some (x0.toList != ([] : List UInt8)))
def dec_digits.f (k : Nat) (a0 : ByteArray) : Option (Bool) := dec_digits.l0 k a0 (a0.size : Int) 0
set_option maxHeartbeats 8000000 in
set_option maxRecDepth 100000 in
theorem dec_digits.calls (k : Nat) (a0 : ByteArray) (r : Bool) (w : World) (h : dec_digits.f k a0 = some r) :
  Calls Tryz.prog 186 #[.string a0] w fun e w' => e = .returned (.bool r) ∧ Drawn0 w w' := by
 have H : (dec_digits.l0 k a0 (a0.size : Int) 0) = some r := h
 clear h
 have H' := Aside0.mk H
 clear H
 go_enter Tryz.func186, Tryz.ntmps186
 go_wp2
 go_loopg [6] k (fun kq v6 w' => ∃ (x6_1 : Int), v6 = .int .i64 x6_1 ∧ Aside0 (dec_digits.l0 kq a0 (a0.size : Int) x6_1 = some r) ∧ Aside0 (kq ≤ k) ∧ Drawn0 w w')
 case atStart => exact ⟨(0), Zr, H', ⟨Nat.le_refl _⟩, Zd⟩
 case round =>
  clear H'
  try clear c1
  obtain ⟨x6_1, rfl, HA, HK1, ⟨m1, rfl⟩⟩ := hrel
  cases gk with
  | zero => exact absurd HA.out (by simp [dec_digits.l0])
  | succ k1 =>
   have H := HA.out
   clear HA
   simp only [dec_digits.l0] at H
   by_cases c2 : x6_1 < (a0.size : Int)
   ·rw [if_pos c2] at H
    have c2b0 : decide (x6_1 < (a0.size : Int)) = true := decide_eq_true c2
    clear c2
    by_cases c3 : 0 ≤ x6_1
    ·rw [if_pos c3] at H
     have c3b0 : decide (0 ≤ x6_1) = true := decide_eq_true c3
     clear c3
     by_cases c4 : x6_1 < (a0.size : Int)
     ·rw [if_pos c4] at H
      have c4b0 : decide (x6_1 < (a0.size : Int)) = true := decide_eq_true c4
      clear c4
      by_cases c6 : (bt a0 x6_1) < 48
      ·rw [if_pos c6] at H
       have c6b0 : decide ((bt a0 x6_1) < 48) = true := decide_eq_true c6
       clear c6
       obtain rfl := Option.some.inj H
       have p5 : 0 ≤ (x6_1 : Int) := of_decide_eq_true Zy
       have q5 : x6_1 < (a0.size : Int) := of_decide_eq_true Zy
       have hx5 := bt_at a0 x6_1
       replace p5 := eq_true p5
       replace q5 := eq_true q5
       go_wp2
       go_ret
       exact ⟨Zr, Zd⟩
      ·rw [if_neg c6] at H
       have c6b0 : decide ((bt a0 x6_1) < 48) = false := decide_eq_false c6
       clear c6
       by_cases c8 : (bt a0 x6_1) > 57
       ·rw [if_pos c8] at H
        have c8b0 : decide (57 < (bt a0 x6_1)) = true := decide_eq_true c8
        clear c8
        obtain rfl := Option.some.inj H
        have p5 : 0 ≤ (x6_1 : Int) := of_decide_eq_true Zy
        have q5 : x6_1 < (a0.size : Int) := of_decide_eq_true Zy
        have hx5 := bt_at a0 x6_1
        replace p5 := eq_true p5
        replace q5 := eq_true q5
        have p7 : 0 ≤ (x6_1 : Int) := of_decide_eq_true Zy
        have q7 : x6_1 < (a0.size : Int) := of_decide_eq_true Zy
        have hx7 := bt_at a0 x6_1
        replace p7 := eq_true p7
        replace q7 := eq_true q7
        go_wp2
        go_ret
        exact ⟨Zr, Zd⟩
       ·rw [if_neg c8] at H
        have c8b0 : decide (57 < (bt a0 x6_1)) = false := decide_eq_false c8
        clear c8
        have H' := Aside0.mk H
        clear H
        have p5 : 0 ≤ (x6_1 : Int) := of_decide_eq_true Zy
        have q5 : x6_1 < (a0.size : Int) := of_decide_eq_true Zy
        have hx5 := bt_at a0 x6_1
        replace p5 := eq_true p5
        replace q5 := eq_true q5
        have p7 : 0 ≤ (x6_1 : Int) := of_decide_eq_true Zy
        have q7 : x6_1 < (a0.size : Int) := of_decide_eq_true Zy
        have hx7 := bt_at a0 x6_1
        replace p7 := eq_true p7
        replace q7 := eq_true q7
        go_wp2
        go_roundg k1
        case measure => have := HK1.out; omega
        case rel => exact ⟨(wrap64 (x6_1 + 1)), Zr, H', ⟨by have := HK1.out; omega⟩, Zd⟩
     ·rw [if_neg c4] at H
      exact absurd H (by simp)
    ·rw [if_neg c3] at H
     exact absurd H (by simp)
   ·rw [if_neg c2] at H
    have c2b0 : decide (x6_1 < (a0.size : Int)) = false := decide_eq_false c2
    clear c2
    obtain rfl := Option.some.inj H
    go_wp2
    go_ret
    exact ⟨Zr, Zd⟩
end Go.Proofs.YtejdmofljifkbaaGreatDoor.P
namespace Go.Proofs.YtejdmofljifkbaaGreatDoor.P
open Go.RowKit Go.Proofs.YtejdmofljifkbaaGreatDoorW.PrintWords Go.Proofs.YtejdmofljifkbaaGreatDoorW.PrintLast Go.Proofs.YtejdmofljifkbaaGreatDoorW.PrintMore
theorem digits_l0 (s : ByteArray) (hs : s.size ≤ 281474976710656) : ∀ (k n : Nat) (l : List UInt8), Pos s n l → l.length < k →
  dec_digits.l0 k s (s.size : Int) (n : Int) = some (digL l && !s.data.toList.isEmpty)
 | 0, n, l, hp, hk => by omega
 | k + 1, n, [], hp, hk => by
  have := hp.len
  simp at this
  simp only [dec_digits.l0]
  rw [if_neg (by omega)]
  simp [digL, nil_bne, Lib.toList_data]
 | k + 1, n, c :: t, hp, hk => by
  have hlt := hp.lt
  have hb := hp.bt
  have ih := digits_l0 s hs k (n + 1) t hp.next (by simpa using hk)
  have hw : wrap64 ((n : Int) + 1) = ((n + 1 : Nat) : Int) := by unfold wrap64; omega
  simp only [dec_digits.l0]
  rw [if_pos (by omega), if_pos (by omega), if_pos (by omega), hb, hw, ih]
  by_cases h1 : c.toNat < 48
  ·rw [if_pos (by omega)]
   simp [digL, show ¬ 48 ≤ c.toNat by omega]
  ·rw [if_neg (by omega)]
   by_cases h2 : 57 < c.toNat
   ·rw [if_pos (by omega)]
    simp [digL, show ¬ c.toNat ≤ 57 by omega]
   ·rw [if_neg (by omega)]
    simp [digL, show 48 ≤ c.toNat by omega, show c.toNat ≤ 57 by omega]
theorem digits_f (s : ByteArray) (hs : s.size ≤ 281474976710656) : dec_digits.f (s.size + 1) s = some (digL s.data.toList && !s.data.toList.isEmpty) :=
 digits_l0 s hs (s.size + 1) 0 _ (Pos.zero s) (by rw [data_length]; omega)
def natL (l : List UInt8) : Nat × Bool :=
 if digL l && !l.isEmpty then
  if l.head? == some 48 && decide (1 < l.length) then (0, false)
  else match Lib.parseUintB 64 l with
   | .ok u => (u, decide (u ≤ 9223372036854775808))
   | .range => (18446744073709551615, false)
   | _ => (0, false)
 else (0, false)
def dec_natural.f (a0 : ByteArray) : Option (Int × Bool) := if a0.size ≤ 281474976710656 then some (((natL a0.data.toList).1 : Int), (natL a0.data.toList).2) else none
theorem bytesW {w : World} {t : TypeId} {s : ByteArray} : Below w.heap.size w (Lib.bytesWorld w t s) := bytes_below (Below.refl _ _) (Nat.le_refl _) _ _
set_option maxRecDepth 100000 in
set_option maxHeartbeats 1600000 in
theorem dec_natural.calls (a0 : ByteArray) (r1 : Int) (r2 : Bool) (w : World) (hG : Glob w) (h : dec_natural.f a0 = some (r1, r2)) :
  Calls Tryz.prog 184 #[.string a0] w fun e w' => e = .returned (.tuple #[.int .u64 r1, .bool r2]) ∧ Below w.heap.size w w' := by
 unfold dec_natural.f at h
 split at h
 case isFalse => cases h
 rename_i hs
 simp only [Option.some.injEq, Prod.mk.injEq] at h
 obtain ⟨rfl, rfl⟩ := h
 have hd := digits_f a0 hs
 have hb : ∀ h0 : 0 < a0.size, ((a0[0]'h0).toNat : Int) = bt a0 0 := fun h0 => bt_at a0 0 (by simpa using h0)
 unfold natL
 obtain ⟨l, hl⟩ : ∃ l, a0.data.toList = l := ⟨_, rfl⟩
 have hp : Pos a0 0 l := hl ▸ Pos.zero a0
 have hlen := hp.len
 rw [hl] at hd ⊢
 cases hdig : (digL l && !l.isEmpty) with
 | false =>
  rw [hdig] at hd
  simp only [Bool.false_eq_true, if_false]
  clear hb hdig hl hp hlen
  have HD := Lib.hid hd
  clear hd
  go_enter Tryz.func184, Tryz.ntmps184
  go_wp2_with fail
  refine (dec_digits.calls _ a0 false _ HD.out).mono ?_
  rintro e w' ⟨rfl, ⟨n, rfl⟩⟩
  go_wp2
  go_ret2
  exact ⟨rfl, Drawn0.below ⟨⟨_, rfl⟩⟩⟩
 | true =>
  rw [hdig] at hd
  simp only [if_true]
  cases l with
  | nil => simp at hdig
  | cons c t =>
   have hlt := hp.lt
   have hx : ∀ h0 : 0 < a0.size, ((a0[0]'h0).toNat : Int) = (c.toNat : Int) := fun h0 => (hb h0).trans hp.bt
   have h0 : 0 < a0.size := hlt
   have HD := Lib.hid hd
   clear hd hb hdig hp
   obtain ⟨te1, pe1, hsyn⟩ := hG.syn
   obtain ⟨te2, pe2, hrng⟩ := hG.rng
   have hh : ((c :: t).head? == some 48) = ((c.toNat : Int) == 48) := by
    rw [Bool.eq_iff_iff]
    simp only [List.head?_cons, beq_iff_eq, Option.some.injEq]
    constructor
    ·rintro rfl; rfl
    ·intro h
     exact UInt8.toNat_inj.1 (by rw [show c.toNat = 48 by omega]; rfl)
   rw [hh, show decide (1 < (c :: t).length) = decide (1 < a0.size) from by rw [show (c :: t).length = a0.size from by omega]]
   have HL := Lib.hid hl
   have HL2 := Lib.hid hlen
   have HSY := Lib.hid hsyn
   have HRN := Lib.hid hrng
   have HX := Lib.hid hx
   clear hl hlen hsyn hrng hh hx hG
   cases hc : (((c.toNat : Int) == 48) && decide (1 < a0.size)) with
   | true =>
    rw [Bool.and_eq_true] at hc
    obtain ⟨hc1, hc2⟩ := hc
    have hc3 : decide (1 < (a0.size : Int)) = true := by simp at hc2 ⊢; omega
    have hx := HX.out
    simp only [if_true]
    go_enter Tryz.func184, Tryz.ntmps184
    go_wp2_with fail
    refine (dec_digits.calls _ a0 true _ HD.out).mono ?_
    rintro e w' ⟨rfl, ⟨n, rfl⟩⟩
    go_wp2
    go_ret2
    exact ⟨rfl, Drawn0.below ⟨⟨_, rfl⟩⟩⟩
   | false =>
    simp only [Bool.false_eq_true, if_false]
    have h2 : ((c.toNat : Int) == 48) = false ∨ (((c.toNat : Int) == 48) = true ∧ decide (1 < (a0.size : Int)) = false) := by
     cases h : ((c.toNat : Int) == 48) with
     | false => exact .inl rfl
     | true =>
      rw [h, Bool.true_and] at hc
      exact .inr ⟨rfl, by simp at hc ⊢; omega⟩
    clear hc
    have hx := HX.out
    cases hm : Lib.parseUintB 64 (c :: t) with
    | ok u =>
     have HM := Lib.hid hm
     clear hm
     simp only
     rcases h2 with h2 | ⟨h2, h3⟩
     all_goals
      go_enter Tryz.func184, Tryz.ntmps184
      go_wp2_with fail
      refine (dec_digits.calls _ a0 true _ HD.out).mono ?_
      rintro e w' ⟨rfl, ⟨n, rfl⟩⟩
      go_wp2_with fail
      refine (Tryz.strconv_ParseUint_10_at64_ok a0 (by omega) u (by rw [HL.out]; exact HM.out) _).mono ?_
      rintro e w2 ⟨rfl, hw⟩
      have hb : Below w.heap.size w w2 := by
       rcases hw with rfl | rfl
       ·exact Drawn0.below ⟨⟨_, rfl⟩⟩
       ·exact below_step (Drawn0.below ⟨⟨_, rfl⟩⟩) bytesW
      have HB := Lib.hid hb
      clear hb hw
      go_wp2
      go_ret2
      exact ⟨by first | (simp; done) | (simp; omega), HB.out⟩
    | range =>
     have HM := Lib.hid hm
     clear hm
     simp only
     rcases h2 with h2 | ⟨h2, h3⟩
     all_goals
      go_enter Tryz.func184, Tryz.ntmps184
      go_wp2_with fail
      refine (dec_digits.calls _ a0 true _ HD.out).mono ?_
      rintro e w' ⟨rfl, ⟨n, rfl⟩⟩
      go_wp2_with fail
      refine (Tryz.strconv_ParseUint_10_at64_range a0 hs (by rw [HL.out]; exact HM.out) (.iface te2 pe2) (w.drewN n) HRN.out (.inr ⟨_, _, rfl⟩)).mono ?_
      rintro e w2 ⟨N, rfl, _, _, hb⟩
      have HB := Lib.hid (below_step (Drawn0.below ⟨⟨_, rfl⟩⟩) hb : Below w.heap.size w w2)
      clear hb
      go_wp2
      go_ret2
      exact ⟨by first | (simp; done) | (simp; omega), HB.out⟩
    | _ =>
     have HM := Lib.hid hm
     clear hm
     simp only
     rcases h2 with h2 | ⟨h2, h3⟩
     all_goals
      go_enter Tryz.func184, Tryz.ntmps184
      go_wp2_with fail
      refine (dec_digits.calls _ a0 true _ HD.out).mono ?_
      rintro e w' ⟨rfl, ⟨n, rfl⟩⟩
      go_wp2_with fail
      refine (Tryz.strconv_ParseUint_10_at64_syntax a0 hs (by rw [HL.out]; exact HM.out.trans (if_pos rfl).symm) (.iface te1 pe1) (w.drewN n) HSY.out (.inr ⟨_, _, rfl⟩)).mono ?_
      rintro e w2 ⟨N, rfl, _, _, hb⟩
      have HB := Lib.hid (below_step (Drawn0.below ⟨⟨_, rfl⟩⟩) hb : Below w.heap.size w w2)
      clear hb
      go_wp2
      go_ret2
      exact ⟨by first | (simp; done) | (simp; omega), HB.out⟩
end Go.Proofs.YtejdmofljifkbaaGreatDoor.P
namespace Go.Proofs.YtejdmofljifkbaaGreatDoor.P
open Go.RowKit Go.Proofs.YtejdmofljifkbaaGreatDoorW.PrintWords Go.Proofs.YtejdmofljifkbaaGreatDoorW.PrintLast Go.Proofs.YtejdmofljifkbaaGreatDoorW.PrintMore
attribute [local go_sem] max2_int min2_int max_two min_two max_three min_three max_four min_four   -- for this text's walks alone
set_option linter.unusedVariables false
set_option linter.unusedSimpArgs false
def dec_Number.f (a0 : ByteArray) : Option (Int × Int) := (dec_natural.f a0).bind fun bt114 => (if bt114.2 = true then (if (bt114.1 / 9223372036854775808) > 0 then (some (0, 15)) else (some (wrap64 (bt114.1), 0))) else (some (0, 15)))
set_option maxHeartbeats 8000000 in
set_option maxRecDepth 100000 in
theorem dec_Number.calls (a0 : ByteArray) (r1 : Int) (r2 : Int) (w : World) (hG : Glob w) (h : dec_Number.f a0 = some (r1, r2)) :
  Calls Tryz.prog 173 #[.string a0] w fun e w' => e = .returned (.tuple #[.int .i64 r1, .int .u8 r2]) ∧ Below w.heap.size w w' := by
 have HG := Aside0.mk hG; clear hG
 have HB := Aside0.mk (Below.refl w.heap.size w)
 have H : ((dec_natural.f a0).bind fun bt114 => (if bt114.2 = true then (if (bt114.1 / 9223372036854775808) > 0 then (some (0, 15)) else (some (wrap64 (bt114.1), 0))) else (some (0, 15)))) = some (r1, r2) := h
 clear h
 obtain ⟨⟨t114, t115⟩, A20, H⟩ := Zk H
 try dsimp only at H
 have A2 := Aside0.mk A20
 clear A20
 by_cases c3 : t115 = true
 ·subst c3
  rw [if_pos rfl] at H
  by_cases c4 : (t114 / 9223372036854775808) > 0
  ·rw [if_pos c4] at H
   have c4b0 : decide (0 < (t114 / 9223372036854775808)) = true := decide_eq_true c4
   clear c4
   simp only [Option.some.injEq, Prod.mk.injEq] at H
   obtain ⟨rfl, rfl⟩ := H
   go_enter Tryz.func173, Tryz.ntmps173
   go_wp2_with (first | ((with_reducible refine gate_callee (f := 184) rfl ?_); refine ZL 8 Tryz.func184 #[.string a0] ?_; (with_reducible refine (dec_natural.calls a0 t114 true _ ?side1 A2.out).mono ?_); (case side1 => exact ZG HG HB); rintro e w5 ⟨rfl, hb⟩; refine ⟨_, rfl, ?_⟩; replace HB := Zs HB hb; try clear hb))
   go_ret2
   exact ⟨Ze, Zh HB⟩
  ·rw [if_neg c4] at H
   have c4b0 : decide (0 < (t114 / 9223372036854775808)) = false := decide_eq_false c4
   clear c4
   simp only [Option.some.injEq, Prod.mk.injEq] at H
   obtain ⟨rfl, rfl⟩ := H
   go_enter Tryz.func173, Tryz.ntmps173
   go_wp2_with (first | ((with_reducible refine gate_callee (f := 184) rfl ?_); refine ZL 8 Tryz.func184 #[.string a0] ?_; (with_reducible refine (dec_natural.calls a0 t114 true _ ?side1 A2.out).mono ?_); (case side1 => exact ZG HG HB); rintro e w6 ⟨rfl, hb⟩; refine ⟨_, rfl, ?_⟩; replace HB := Zs HB hb; try clear hb))
   go_ret2
   exact ⟨Ze, Zh HB⟩
 ·replace c3 := Bool.eq_false_iff.mpr c3
  subst c3
  rw [Zf] at H
  simp only [Option.some.injEq, Prod.mk.injEq] at H
  obtain ⟨rfl, rfl⟩ := H
  go_enter Tryz.func173, Tryz.ntmps173
  go_wp2_with (first | ((with_reducible refine gate_callee (f := 184) rfl ?_); refine ZL 8 Tryz.func184 #[.string a0] ?_; (with_reducible refine (dec_natural.calls a0 t114 false _ ?side1 A2.out).mono ?_); (case side1 => exact ZG HG HB); rintro e w7 ⟨rfl, hb⟩; refine ⟨_, rfl, ?_⟩; replace HB := Zs HB hb; try clear hb))
  go_ret2
  exact ⟨Ze, Zh HB⟩
end Go.Proofs.YtejdmofljifkbaaGreatDoor.P
namespace Go.Proofs.YtejdmofljifkbaaGreatDoor.P
open Go.RowKit Go.Proofs.YtejdmofljifkbaaGreatDoorW.PrintWords Go.Proofs.YtejdmofljifkbaaGreatDoorW.PrintLast Go.Proofs.YtejdmofljifkbaaGreatDoorW.PrintMore
attribute [local go_sem] max2_int min2_int max_two min_two max_three min_three max_four min_four   -- for this text's walks alone
set_option linter.unusedVariables false
set_option linter.unusedSimpArgs false
def stringslite_HasPrefix.f (a0 : ByteArray) (a1 : ByteArray) : Option (Bool) := if (a0.size : Int) ≥ (a1.size : Int) then (if 0 ≤ (a1.size : Int) then (if (a1.size : Int) ≤ (a0.size : Int) then (some ((a0.extract 0 ((a1.size : Int) : Int).toNat).toList == a1.toList)) else (none)) else (none)) else (some false)
set_option maxHeartbeats 8000000 in
set_option maxRecDepth 100000 in
theorem stringslite_HasPrefix.calls (a0 : ByteArray) (a1 : ByteArray) (r : Bool) (w : World) (h : stringslite_HasPrefix.f a0 a1 = some r) :
  Calls Tryz.prog 143 #[.string a0, .string a1] w fun e w' => e = .returned (.bool r) ∧ Drawn0 w w' := by
 have H : (if (a0.size : Int) ≥ (a1.size : Int) then (if 0 ≤ (a1.size : Int) then (if (a1.size : Int) ≤ (a0.size : Int) then (some ((a0.extract 0 ((a1.size : Int) : Int).toNat).toList == a1.toList)) else (none)) else (none)) else (some false)) = some r := h
 clear h
 by_cases c3 : (a0.size : Int) ≥ (a1.size : Int)
 ·rw [if_pos c3] at H
  have c3b0 : decide ((a1.size : Int) ≤ (a0.size : Int)) = true := decide_eq_true c3
  have c3b1 : decide (a1.size ≤ a0.size) = true := decide_eq_true (Int.ofNat_le.mp c3)
  clear c3
  by_cases c4 : 0 ≤ (a1.size : Int)
  ·rw [if_pos c4] at H
   have c4b0 := eq_true c4
   have c4b1 : decide (0 ≤ (a1.size : Int)) = true := decide_eq_true c4
   clear c4
   by_cases c5 : (a1.size : Int) ≤ (a0.size : Int)
   ·rw [if_pos c5] at H
    have c5b0 := eq_true c5
    have c5b1 : decide ((a1.size : Int) ≤ (a0.size : Int)) = true := decide_eq_true c5
    clear c5
    obtain rfl := Option.some.inj H
    go_enter Tryz.func143, Tryz.ntmps143
    go_wp2
    go_ret
    exact ⟨Zr, Zd⟩
   ·rw [if_neg c5] at H
    exact absurd H (by simp)
  ·rw [if_neg c4] at H
   exact absurd H (by simp)
 ·rw [if_neg c3] at H
  have c3b0 : decide ((a1.size : Int) ≤ (a0.size : Int)) = false := decide_eq_false c3
  have c3b1 : decide (a1.size ≤ a0.size) = false := decide_eq_false (fun h => c3 (Int.ofNat_le.mpr h))
  clear c3
  obtain rfl := Option.some.inj H
  go_enter Tryz.func143, Tryz.ntmps143
  go_wp2
  go_ret
  exact ⟨Zr, Zd⟩
end Go.Proofs.YtejdmofljifkbaaGreatDoor.P
namespace Go.Proofs.YtejdmofljifkbaaGreatDoor.P
open Go.RowKit Go.Proofs.YtejdmofljifkbaaGreatDoorW.PrintWords Go.Proofs.YtejdmofljifkbaaGreatDoorW.PrintLast Go.Proofs.YtejdmofljifkbaaGreatDoorW.PrintMore
attribute [local go_sem] max2_int min2_int max_two min_two max_three min_three max_four min_four   -- for this text's walks alone
set_option linter.unusedVariables false
set_option linter.unusedSimpArgs false
def stringslite_CutPrefix.f (a0 : ByteArray) (a1 : ByteArray) : Option (ByteArray × Bool) := (stringslite_HasPrefix.f a0 a1).bind fun t116 => (if t116 = true then (if 0 ≤ (a1.size : Int) then (if (a1.size : Int) ≤ (a0.size : Int) then (some (a0.extract ((a1.size : Int) : Int).toNat a0.size, true)) else (none)) else (none)) else (some (a0, false)))
set_option maxHeartbeats 8000000 in
set_option maxRecDepth 100000 in
theorem stringslite_CutPrefix.calls (a0 : ByteArray) (a1 : ByteArray) (r1 : ByteArray) (r2 : Bool) (w : World) (h : stringslite_CutPrefix.f a0 a1 = some (r1, r2)) :
  Calls Tryz.prog 169 #[.string a0, .string a1] w fun e w' => e = .returned (.tuple #[.string r1, .bool r2]) ∧ Drawn0 w w' := by
 have H : ((stringslite_HasPrefix.f a0 a1).bind fun t116 => (if t116 = true then (if 0 ≤ (a1.size : Int) then (if (a1.size : Int) ≤ (a0.size : Int) then (some (a0.extract ((a1.size : Int) : Int).toNat a0.size, true)) else (none)) else (none)) else (some (a0, false)))) = some (r1, r2) := h
 clear h
 obtain ⟨t116, A30, H⟩ := Zk H
 have A3 := Aside0.mk A30
 clear A30
 by_cases c4 : t116 = true
 ·subst c4
  rw [if_pos rfl] at H
  by_cases c5 : 0 ≤ (a1.size : Int)
  ·rw [if_pos c5] at H
   have c5b0 := eq_true c5
   have c5b1 : decide (0 ≤ (a1.size : Int)) = true := decide_eq_true c5
   clear c5
   by_cases c6 : (a1.size : Int) ≤ (a0.size : Int)
   ·rw [if_pos c6] at H
    have c6b0 := eq_true c6
    have c6b1 : decide ((a1.size : Int) ≤ (a0.size : Int)) = true := decide_eq_true c6
    clear c6
    simp only [Option.some.injEq, Prod.mk.injEq] at H
    obtain ⟨rfl, rfl⟩ := H
    go_enter Tryz.func169, Tryz.ntmps169
    go_wp2_with (first | ((with_reducible refine gate_callee (f := 143) rfl ?_); refine ZL 8 Tryz.func143 #[.string a0, .string a1] ?_; (with_reducible refine (stringslite_HasPrefix.calls a0 a1 true _ A3.out).mono ?_); rintro e w' ⟨rfl, ⟨nd, rfl⟩⟩; refine ⟨_, rfl, ?_⟩))
    go_ret2
    exact ⟨Zr, Zd⟩
   ·rw [if_neg c6] at H
    exact absurd H (by simp)
  ·rw [if_neg c5] at H
   exact absurd H (by simp)
 ·replace c4 := Bool.eq_false_iff.mpr c4
  subst c4
  rw [Zf] at H
  simp only [Option.some.injEq, Prod.mk.injEq] at H
  obtain ⟨rfl, rfl⟩ := H
  go_enter Tryz.func169, Tryz.ntmps169
  go_wp2_with (first | ((with_reducible refine gate_callee (f := 143) rfl ?_); refine ZL 8 Tryz.func143 #[.string a0, .string a1] ?_; (with_reducible refine (stringslite_HasPrefix.calls a0 a1 false _ A3.out).mono ?_); rintro e w' ⟨rfl, ⟨nd, rfl⟩⟩; refine ⟨_, rfl, ?_⟩))
  go_ret2
  exact ⟨Zr, Zd⟩
end Go.Proofs.YtejdmofljifkbaaGreatDoor.P
namespace Go.Proofs.YtejdmofljifkbaaGreatDoor.P
open Go.RowKit Go.Proofs.YtejdmofljifkbaaGreatDoorW.PrintWords Go.Proofs.YtejdmofljifkbaaGreatDoorW.PrintLast Go.Proofs.YtejdmofljifkbaaGreatDoorW.PrintMore
attribute [local go_sem] max2_int min2_int max_two min_two max_three min_three max_four min_four   -- for this text's walks alone
set_option linter.unusedVariables false
set_option linter.unusedSimpArgs false
def strings_CutPrefix.f (a0 : ByteArray) (a1 : ByteArray) : Option (ByteArray × Bool) := (stringslite_CutPrefix.f a0 a1).bind fun bt117 => (some (bt117.1, bt117.2))
set_option maxHeartbeats 8000000 in
set_option maxRecDepth 100000 in
theorem strings_CutPrefix.calls (a0 : ByteArray) (a1 : ByteArray) (r1 : ByteArray) (r2 : Bool) (w : World) (h : strings_CutPrefix.f a0 a1 = some (r1, r2)) :
  Calls Tryz.prog 154 #[.string a0, .string a1] w fun e w' => e = .returned (.tuple #[.string r1, .bool r2]) ∧ Drawn0 w w' := by
 have H : ((stringslite_CutPrefix.f a0 a1).bind fun bt117 => (some (bt117.1, bt117.2))) = some (r1, r2) := h
 clear h
 obtain ⟨⟨t117, t118⟩, A30, H⟩ := Zk H
 try dsimp only at H
 have A3 := Aside0.mk A30
 clear A30
 simp only [Option.some.injEq, Prod.mk.injEq] at H
 obtain ⟨rfl, rfl⟩ := H
 go_enter Tryz.func154, Tryz.ntmps154
 go_wp2_with (first | ((with_reducible refine gate_callee (f := 169) rfl ?_); refine ZL 8 Tryz.func169 #[.string a0, .string a1] ?_; (with_reducible refine (stringslite_CutPrefix.calls a0 a1 t117 t118 _ A3.out).mono ?_); rintro e w' ⟨rfl, ⟨nd, rfl⟩⟩; refine ⟨_, rfl, ?_⟩))
 go_ret2
 exact ⟨Zr, Zd⟩
end Go.Proofs.YtejdmofljifkbaaGreatDoor.P
namespace Go.Proofs.YtejdmofljifkbaaGreatDoor.P
open Go.RowKit Go.Proofs.YtejdmofljifkbaaGreatDoorW.PrintWords Go.Proofs.YtejdmofljifkbaaGreatDoorW.PrintLast Go.Proofs.YtejdmofljifkbaaGreatDoorW.PrintMore
attribute [local go_sem] max2_int min2_int max_two min_two max_three min_three max_four min_four   -- for this text's walks alone
set_option linter.unusedVariables false
set_option linter.unusedSimpArgs false
mutual
def dec_Time.j0 : Nat → Bool → ByteArray → Bool → Int → Bool → Option (Int × Int × Int)
 | 0, _, _, _, _, _ => none
 | k + 1, x4, x5, x6, x7, x41 => if x41 = true then (some (0, 0, 15)) else (if x6 = true then ((strings_Repeat.f (⟨#[48]⟩ : ByteArray) (wrap64 (9 - (x5.size : Int)))).bind fun t128 => (if x5.size + t128.size ≤ 9223372036854775807 then ((strconv_ParseInt.f (x5 ++ t128) 10 64).bind fun bt129 => (dec_Time.j1 k x4 x7 bt129.1)) else (none))) else (dec_Time.j1 k x4 x7 0))
def dec_Time.j1 : Nat → Bool → Int → Int → Option (Int × Int × Int)
 | 0, _, _, _ => none
 | k + 1, x4, x7, x9 => if x4 = true then (dec_Time.j2 k x4 x7 x9 false (wrap64 (x7)) x9) else (dec_Time.j2 k x4 x7 x9 (decide ((x7 / 9223372036854775808) > 0)) (wrap64 (x7)) x9)
def dec_Time.j2 : Nat → Bool → Int → Int → Bool → Int → Int → Option (Int × Int × Int)
 | 0, _, _, _, _, _, _ => none
 | k + 1, x4, x7, x9, x66, x132000, x132001 => if x66 = true then (some (0, 0, 15)) else (if x4 = true then (if x9 = 0 then (some (wrap64 (IntKind.u64.wrap (-x7)), x132001, 0)) else (if (x7 / 9223372036854775808) > 0 then (some (0, 0, 15)) else (some (wrap64 ((wrap64 (-(wrap64 (x7)))) - 1), wrap64 (1000000000 - x9), 0)))) else (some (x132000, x132001, 0)))
end
def dec_Time.f (k : Nat) (a0 : ByteArray) : Option (Int × Int × Int) := (strings_CutPrefix.f a0 (⟨#[45]⟩ : ByteArray)).bind fun bt120 => ((strings_Cut.f bt120.1 (⟨#[46]⟩ : ByteArray)).bind fun bt122 => ((dec_natural.f bt122.1).bind fun bt125 => (if bt125.2 = true then (if bt122.2.2 = true then ((dec_digits.f k bt122.2.1).bind fun t127 => (if t127 = true then (dec_Time.j0 k bt120.2 bt122.2.1 bt122.2.2 bt125.1 (decide ((bt122.2.1.size : Int) > 9))) else (dec_Time.j0 k bt120.2 bt122.2.1 bt122.2.2 bt125.1 true))) else (dec_Time.j0 k bt120.2 bt122.2.1 bt122.2.2 bt125.1 false)) else (dec_Time.j0 k bt120.2 bt122.2.1 bt122.2.2 bt125.1 true))))
set_option maxHeartbeats 8000000 in
set_option maxRecDepth 100000 in
theorem dec_Time.calls (k : Nat) (a0 : ByteArray) (r1 : Int) (r2 : Int) (r3 : Int) (w : World) (hG : Glob w) (h : dec_Time.f k a0 = some (r1, r2, r3)) :
  Calls Tryz.prog 174 #[.string a0] w fun e w' => e = .returned (.tuple #[.agg #[.int .i64 r1, .int .i64 r2], .int .u8 r3]) ∧ Below w.heap.size w w' := by
 have hu23 := Tryz.underlying23
 have HG := Aside0.mk hG; clear hG
 have HB := Aside0.mk (Below.refl w.heap.size w)
 have H : ((strings_CutPrefix.f a0 (⟨#[45]⟩ : ByteArray)).bind fun bt120 => ((strings_Cut.f bt120.1 (⟨#[46]⟩ : ByteArray)).bind fun bt122 => ((dec_natural.f bt122.1).bind fun bt125 => (if bt125.2 = true then (if bt122.2.2 = true then ((dec_digits.f k bt122.2.1).bind fun t127 => (if t127 = true then (dec_Time.j0 k bt120.2 bt122.2.1 bt122.2.2 bt125.1 (decide ((bt122.2.1.size : Int) > 9))) else (dec_Time.j0 k bt120.2 bt122.2.1 bt122.2.2 bt125.1 true))) else (dec_Time.j0 k bt120.2 bt122.2.1 bt122.2.2 bt125.1 false)) else (dec_Time.j0 k bt120.2 bt122.2.1 bt122.2.2 bt125.1 true))))) = some (r1, r2, r3) := h
 clear h
 obtain ⟨⟨t120, t121⟩, A20, H⟩ := Zk H
 try dsimp only at H
 have A2 := Aside0.mk A20
 clear A20
 obtain ⟨⟨t122, t123, t124⟩, A30, H⟩ := Zk H
 try dsimp only at H
 have A3 := Aside0.mk A30
 clear A30
 obtain ⟨⟨t125, t126⟩, A40, H⟩ := Zk H
 try dsimp only at H
 have A4 := Aside0.mk A40
 clear A40
 have HC5 := Aside0.mk H; clear H
 go_enter Tryz.func174, Tryz.ntmps174
 go_upto_region 4 with (first | ((with_reducible refine gate_dst (N := 2) rfl ?_); (try (refine gate_guard (by rfl) ?_; dsimp only)); refine Zbx (N := 2) (cs := #[.int .i64 0, .int .i64 0]) (t := 23) HB ?_; intro gb119 w6 HB BK119 GE119; have GW119 := GE119) | ((with_reducible refine gate_callee (f := 154) rfl ?_); refine ZL 13 Tryz.func154 #[.string a0, .string (⟨#[45]⟩ : ByteArray)] ?_; (with_reducible refine (strings_CutPrefix.calls a0 (⟨#[45]⟩ : ByteArray) t120 t121 _ A2.out).mono ?_); rintro e w' ⟨rfl, ⟨nd, rfl⟩⟩; refine ⟨_, rfl, ?_⟩) | ((with_reducible refine gate_callee (f := 185) rfl ?_); refine ZL 18 Tryz.func185 #[.string t120, .string (⟨#[46]⟩ : ByteArray)] ?_; (with_reducible refine (strings_Cut.calls t120 (⟨#[46]⟩ : ByteArray) t122 t123 t124 _ ?side1 A3.out).mono ?_); (case side1 => exact ZGg HG HB GE119); rintro e w7 ⟨rfl, hb⟩; refine ⟨_, rfl, ?_⟩; replace BK119 := Zx BK119 hb; replace HB := Zsg HB GE119 hb; try clear hb) | ((with_reducible refine gate_callee (f := 184) rfl ?_); refine ZL 24 Tryz.func184 #[.string t122] ?_; (with_reducible refine (dec_natural.calls t122 t125 t126 _ ?side1 A4.out).mono ?_); (case side1 => exact ZGg HG HB GE119); rintro e w8 ⟨rfl, hb⟩; refine ⟨_, rfl, ?_⟩; replace BK119 := Zx BK119 hb; replace HB := Zsg HB GE119 hb; try clear hb))
 (try simp only [Act.put, List.setIfInBounds_toArray, List.set_cons_zero, List.set_cons_succ])
 go_cut [41] (fun v41 wc => ∃ (kq : Nat) (x41_4 : Bool), v41 = .bool x41_4 ∧ Aside0 (dec_Time.j0 kq t121 t123 t124 t125 x41_4 = some (r1, r2, r3)) ∧ Aside0 (kq ≤ k) ∧ Aside0 (wc.heap[gb119]? = some (.cells #[.int .i64 0, .int .i64 0] 23 (0, 0))) ∧ Aside0 (Below w.heap.size w wc))
 case first =>
  have H := HC5.out
  clear HC5
  by_cases c9 : t126 = true
  ·subst c9
   rw [if_pos rfl] at H
   by_cases c10 : t124 = true
   ·subst c10
    rw [if_pos rfl] at H
    obtain ⟨t127, A110, H⟩ := Zk H
    have A11 := Aside0.mk A110
    clear A110
    by_cases c12 : t127 = true
    ·subst c12
     rw [if_pos rfl] at H
     have H' := Aside0.mk H
     clear H
     go_wp2_with (first | (go_at_call 186; (with_reducible refine (dec_digits.calls k t123 true _ A11.out).mono ?_); rintro e w' ⟨rfl, ⟨nd, rfl⟩⟩))
     go_meet
     case rel => exact ⟨_, (decide ((t123.size : Int) > 9)), Zr, H', Zl, ⟨Zw BK119⟩, ⟨Zhg HB GE119⟩⟩
    ·replace c12 := Bool.eq_false_iff.mpr c12
     subst c12
     rw [Zf] at H
     have H' := Aside0.mk H
     clear H
     go_wp2_with (first | (go_at_call 186; (with_reducible refine (dec_digits.calls k t123 false _ A11.out).mono ?_); rintro e w' ⟨rfl, ⟨nd, rfl⟩⟩))
     go_meet
     case rel => exact ⟨_, (true), Zr, H', Zl, ⟨Zw BK119⟩, ⟨Zhg HB GE119⟩⟩
   ·replace c10 := Bool.eq_false_iff.mpr c10
    subst c10
    rw [Zf] at H
    have H' := Aside0.mk H
    clear H
    go_wp2
    go_meet
    case rel => exact ⟨_, (false), Zr, H', Zl, ⟨Zw BK119⟩, ⟨Zhg HB GE119⟩⟩
  ·replace c9 := Bool.eq_false_iff.mpr c9
   subst c9
   rw [Zf] at H
   have H' := Aside0.mk H
   clear H
   go_wp2
   go_meet
   case rel => exact ⟨_, (true), Zr, H', Zl, ⟨Zw BK119⟩, ⟨Zhg HB GE119⟩⟩
 case rest =>
  clear HC5
  try clear c1
  try clear p2
  try clear c9
  try clear c10
  try clear c12
  obtain ⟨kq, x41_4, rfl, HA, HJ4, BK119, HB⟩ := hcut
  cases kq with
  | zero => exact absurd HA.out (by simp [dec_Time.j0])
  | succ kj4 =>
   have H := HA.out
   clear HA
   simp only [dec_Time.j0] at H
   by_cases c13 : x41_4 = true
   ·subst c13
    rw [if_pos rfl] at H
    simp only [Option.some.injEq, Prod.mk.injEq] at H
    obtain ⟨rfl, rfl, rfl⟩ := H
    have hcz14 := Zc2 BK119.out
    have hfz14 := blk_frozen BK119.out
    go_wp2
    refine bodyPost_ret (results_ct rfl _ _ gb119 23 #[.int .i64 0, .int .i64 0] (0, 0) _ rfl (by (with_reducible repeat (first | refine blk_drewN ?_ _ | refine blk_drew ?_ | refine blk_alloc ?_ _)); refine blk_put (cs := #[.int .i64 0, .int .i64 0]) ?_ 1 _ rfl; (with_reducible repeat (first | refine blk_drewN ?_ _ | refine blk_drew ?_ | refine blk_alloc ?_ _)); refine blk_put (cs := #[.int .i64 0, .int .i64 0]) ?_ 0 _ rfl; (with_reducible repeat (first | refine blk_drewN ?_ _ | refine blk_drew ?_ | refine blk_alloc ?_ _)); exact BK119.out) Tryz.underlying23 rfl (by kernel_rfl)) rfl ?_
    exact ⟨Ze, Zhg HB GE119⟩
   ·replace c13 := Bool.eq_false_iff.mpr c13
    subst c13
    rw [Zf] at H
    have HC15 := Aside0.mk H; clear H
    go_upto_if 43 with (fail)
    go_cut [9] (fun v9 wc => ∃ (kq : Nat) (x9_14 : Int), v9 = .int .i64 x9_14 ∧ Aside0 (dec_Time.j1 kq t121 t125 x9_14 = some (r1, r2, r3)) ∧ Aside0 (kq ≤ kj4) ∧ Aside0 (wc.heap[gb119]? = some (.cells #[.int .i64 0, .int .i64 0] 23 (0, 0))) ∧ Aside0 (Below w.heap.size w wc))
    case first =>
     have H := HC15.out
     clear HC15
     by_cases c16 : t124 = true
     ·subst c16
      rw [if_pos rfl] at H
      obtain ⟨t128, A170, H⟩ := Zk H
      have A17 := Aside0.mk A170
      clear A170
      by_cases c18 : t123.size + t128.size ≤ 9223372036854775807
      ·rw [if_pos c18] at H
       have c18b0 := eq_true c18
       have c18b1 : decide (t123.size + t128.size ≤ 9223372036854775807) = true := decide_eq_true c18
       try have c18b2 : (9223372036854775807 < t123.size + t128.size) = False := eq_false (Nat.not_lt.2 c18)
       obtain ⟨⟨t129, t130⟩, A190, H⟩ := Zk H
       try dsimp only at H
       have A19 := Aside0.mk A190
       clear A190
       have H' := Aside0.mk H
       clear H
       go_wp2_with (first | ((with_reducible refine gate_callee (f := 68) rfl ?_); refine goesL_ (some 49) rfl rfl Tryz.func68 (by kernel_rfl) rfl #[.string (⟨#[48]⟩ : ByteArray), .int .i64 (wrap64 (9 - (t123.size : Int)))] rfl (by (try simp only [List.map_toArray, List.map_cons, List.map_nil]); first | done | rfl | (simp only [List.length_drop, List.length_take]; rfl) | (refine Eq.trans (b := #[.string (⟨#[48]⟩ : ByteArray), .int .i64 (9 - (t123.size : Int))]) rfl ?_; rw [w64 (9 - (t123.size : Int)) (by omega) (by omega)])) ?_; (with_reducible refine (strings_Repeat.calls (⟨#[48]⟩ : ByteArray) (wrap64 (9 - (t123.size : Int))) t128 _ A17.out).mono ?_); rintro e w20 ⟨rfl, hb⟩; refine ⟨_, rfl, ?_⟩; replace BK119 := Zx BK119 hb; replace HB := Zsg HB GE119 hb; try clear hb) | ((with_reducible refine gate_callee (f := 187) rfl ?_); refine ZL 51 Tryz.func187 #[.string (t123 ++ t128), .int .i64 10, .int .i64 64] ?_; (with_reducible refine (strconv_ParseInt.calls (t123 ++ t128) 10 64 t129 t130 _ ?side1 A19.out).mono ?_); (case side1 => exact ZGg HG HB GE119); rintro e w21 ⟨rfl, hb⟩; refine ⟨_, rfl, ?_⟩; replace BK119 := Zx BK119 hb; replace HB := Zsg HB GE119 hb; try clear hb; (try simp only [errW_none, errW_some])))
       go_meet
       case rel => exact ⟨_, (t129), Zr, H', (Zm HJ4), ⟨Zw BK119⟩, ⟨Zhg HB GE119⟩⟩
      ·rw [if_neg c18] at H
       exact absurd H (by simp)
     ·replace c16 := Bool.eq_false_iff.mpr c16
      subst c16
      rw [Zf] at H
      have H' := Aside0.mk H
      clear H
      go_wp2
      go_meet
      case rel => exact ⟨_, (0), Zr, H', (Zm HJ4), ⟨Zw BK119⟩, ⟨Zhg HB GE119⟩⟩
    case rest =>
     clear HC15
     try clear c1
     try clear p2
     try clear c6
     try clear p6
     try clear c9
     try clear c10
     try clear c12
     try clear c13
     try clear c15
     try clear c16
     try clear c17
     try clear c18
     try clear c18b0
     try clear c18b1
     try clear c18b2
     try clear hcz14
     try clear hfz14
     try clear p2
     obtain ⟨kq, x9_14, rfl, HA, HJ14, BK119, HB⟩ := hcut
     cases kq with
     | zero => exact absurd HA.out (by simp [dec_Time.j1])
     | succ kj14 =>
      have H := HA.out
      clear HA
      simp only [dec_Time.j1] at H
      have HC22 := Aside0.mk H; clear H
      go_upto_region 11 with (first | ((with_reducible refine gate_dst (N := 10) rfl ?_); (try (refine gate_guard (by rfl) ?_; dsimp only)); refine box_event ?hg (N := 10) ?hd (cs := #[.int .i64 0, .int .i64 0]) (t := 23) ?hr ?_; (case hd => rfl); (case hg => rfl); (case hr => first | (go_simp; done) | (go_simp; rfl)); intro gb131 hg w23 hbox hb; have n0_ := Zx BK119 hb; have n1_ := Zsg HB GE119 hb; have n2_ := Aside0.mk (hbox); have n3_ := Aside0.mk ((by rw [hg]; exact (below_size (Zhg HB GE119)) : w.heap.size ≤ gb131)); have n4_ := Aside0.mk ((by rw [hg]; exact (below_size (Zhg HB GE119)) : w.heap.size ≤ gb131)); have n5_ := Aside0.mk ((by rw [hg]; exact Nat.ne_of_lt (blk_lt (g := gb119) (o := .cells #[.int .i64 0, .int .i64 0] 23 (0, 0)) (Zw BK119)) : gb119 ≠ gb131)); have n6_ := Aside0.mk ((by rw [hg]; exact Nat.ne_of_gt (blk_lt (g := gb119) (o := .cells #[.int .i64 0, .int .i64 0] 23 (0, 0)) (Zw BK119)) : gb131 ≠ gb119)); clear BK119; clear HB; have BK119 := n0_; have HB := n1_; have BK131 := n2_; have GW131 := n3_; have GE131 := n4_; have NB119_131 := n5_; have NB131_119 := n6_; clear n0_ n1_ n2_ n3_ n4_ n5_ n6_; clear hb hbox hg; have hnb24 := NB131_119.out; have hnc24 := NB119_131.out; have hcz25 := Zc2 BK131.out; have hfz25 := blk_frozen BK131.out))
      (try simp only [Act.put, List.setIfInBounds_toArray, List.set_cons_zero, List.set_cons_succ])
      go_cut [66] (fun v66 wc => ∃ (kq : Nat) (x66_21 : Bool), v66 = .bool x66_21 ∧ Aside0 (dec_Time.j2 kq t121 t125 x9_14 x66_21 (wrap64 (t125)) x9_14 = some (r1, r2, r3)) ∧ Aside0 (kq ≤ kj14) ∧ Aside0 (wc.heap[gb119]? = some (.cells #[.int .i64 0, .int .i64 0] 23 (0, 0))) ∧ Aside0 (wc.heap[gb131]? = some (.cells #[.int .i64 (wrap64 (t125)), .int .i64 x9_14] 23 (0, 0))) ∧ Aside0 (Below w.heap.size w wc))
      case first =>
       have H := HC22.out
       clear HC22
       by_cases c26 : t121 = true
       ·subst c26
        rw [if_pos rfl] at H
        have H' := Aside0.mk H
        clear H
        go_wp2
        go_meet
        case rel => exact ⟨_, (false), Zr, H', ⟨by have := HJ4.out; have := HJ14.out; first | omega | exact Nat.le_refl _⟩, ⟨by (with_reducible repeat (first | refine blk_drewN ?_ _ | refine blk_drew ?_ | refine blk_alloc ?_ _)); refine blk_far ?_ NB119_131.out _; (with_reducible repeat (first | refine blk_drewN ?_ _ | refine blk_drew ?_ | refine blk_alloc ?_ _)); refine blk_far ?_ NB119_131.out _; (with_reducible repeat (first | refine blk_drewN ?_ _ | refine blk_drew ?_ | refine blk_alloc ?_ _)); exact BK119.out⟩, ⟨by (with_reducible repeat (first | refine blk_drewN ?_ _ | refine blk_drew ?_ | refine blk_alloc ?_ _)); refine blk_put (cs := #[.int .i64 (wrap64 (t125)), .int .i64 0]) ?_ 1 _ rfl; (with_reducible repeat (first | refine blk_drewN ?_ _ | refine blk_drew ?_ | refine blk_alloc ?_ _)); refine blk_put (cs := #[.int .i64 0, .int .i64 0]) ?_ 0 _ rfl; (with_reducible repeat (first | refine blk_drewN ?_ _ | refine blk_drew ?_ | refine blk_alloc ?_ _)); exact BK131.out⟩, ⟨by repeat (first | (with_reducible first | exact HB.out | apply below_alloc | apply pw_below_drewN | apply below_drew1 | refine below_set ?_ GE119.out | refine below_set ?_ GE131.out) | exact HB.out)⟩⟩
       ·replace c26 := Bool.eq_false_iff.mpr c26
        subst c26
        rw [Zf] at H
        have H' := Aside0.mk H
        clear H
        go_wp2
        go_meet
        case rel => exact ⟨_, (decide ((t125 / 9223372036854775808) > 0)), Zr, H', ⟨by have := HJ4.out; have := HJ14.out; first | omega | exact Nat.le_refl _⟩, ⟨by (with_reducible repeat (first | refine blk_drewN ?_ _ | refine blk_drew ?_ | refine blk_alloc ?_ _)); refine blk_far ?_ NB119_131.out _; (with_reducible repeat (first | refine blk_drewN ?_ _ | refine blk_drew ?_ | refine blk_alloc ?_ _)); refine blk_far ?_ NB119_131.out _; (with_reducible repeat (first | refine blk_drewN ?_ _ | refine blk_drew ?_ | refine blk_alloc ?_ _)); exact BK119.out⟩, ⟨by (with_reducible repeat (first | refine blk_drewN ?_ _ | refine blk_drew ?_ | refine blk_alloc ?_ _)); refine blk_put (cs := #[.int .i64 (wrap64 (t125)), .int .i64 0]) ?_ 1 _ rfl; (with_reducible repeat (first | refine blk_drewN ?_ _ | refine blk_drew ?_ | refine blk_alloc ?_ _)); refine blk_put (cs := #[.int .i64 0, .int .i64 0]) ?_ 0 _ rfl; (with_reducible repeat (first | refine blk_drewN ?_ _ | refine blk_drew ?_ | refine blk_alloc ?_ _)); exact BK131.out⟩, ⟨by repeat (first | (with_reducible first | exact HB.out | apply below_alloc | apply pw_below_drewN | apply below_drew1 | refine below_set ?_ GE119.out | refine below_set ?_ GE131.out) | exact HB.out)⟩⟩
      case rest =>
       clear HC22
       try clear c1
       try clear c2
       try clear p2
       try clear c6
       try clear p6
       try clear c9
       try clear c10
       try clear c12
       try clear c13
       try clear c15
       try clear c16
       try clear c17
       try clear c18
       try clear c18b0
       try clear c18b1
       try clear c18b2
       try clear c24
       try clear c26
       try clear hcz14
       try clear hcz25
       try clear hfz14
       try clear hfz25
       try clear p2
       try clear p6
       obtain ⟨kq, x66_21, rfl, HA, HJ21, BK119, BK131, HB⟩ := hcut
       cases kq with
       | zero => exact absurd HA.out (by simp [dec_Time.j2])
       | succ kj21 =>
        have H := HA.out
        clear HA
        simp only [dec_Time.j2] at H
        by_cases c27 : x66_21 = true
        ·subst c27
         rw [if_pos rfl] at H
         simp only [Option.some.injEq, Prod.mk.injEq] at H
         obtain ⟨rfl, rfl, rfl⟩ := H
         have hnb28 := NB119_131.out
         have hnc28 := NB131_119.out
         have hcz29 := Zc2 BK119.out
         have hfz29 := blk_frozen BK119.out
         go_wp2
         refine bodyPost_ret (results_ct rfl _ _ gb119 23 #[.int .i64 0, .int .i64 0] (0, 0) _ rfl (by (with_reducible repeat (first | refine blk_drewN ?_ _ | refine blk_drew ?_ | refine blk_alloc ?_ _)); refine blk_put (cs := #[.int .i64 0, .int .i64 0]) ?_ 1 _ rfl; (with_reducible repeat (first | refine blk_drewN ?_ _ | refine blk_drew ?_ | refine blk_alloc ?_ _)); refine blk_put (cs := #[.int .i64 0, .int .i64 0]) ?_ 0 _ rfl; (with_reducible repeat (first | refine blk_drewN ?_ _ | refine blk_drew ?_ | refine blk_alloc ?_ _)); exact BK119.out) Tryz.underlying23 rfl (by kernel_rfl)) rfl ?_
         exact ⟨Ze, by repeat (first | (with_reducible first | exact HB.out | apply below_alloc | apply pw_below_drewN | apply below_drew1 | refine below_set ?_ GE119.out | refine below_set ?_ GE131.out) | exact HB.out)⟩
        ·replace c27 := Bool.eq_false_iff.mpr c27
         subst c27
         rw [Zf] at H
         by_cases c30 : t121 = true
         ·subst c30
          rw [if_pos rfl] at H
          by_cases c31 : x9_14 = 0
          ·rw [if_pos c31] at H
           have c31b0 : (x9_14 == 0) = true := beq_iff_eq.mpr c31
           have c31b1 : (x9_14 != 0) = false := bne_eq_false_iff_eq.mpr c31
           clear c31
           simp only [Option.some.injEq, Prod.mk.injEq] at H
           obtain ⟨rfl, rfl, rfl⟩ := H
           have hnb32 := NB131_119.out
           have hnc32 := NB119_131.out
           have hcz33 := Zc2 BK131.out
           have hfz33 := blk_frozen BK131.out
           have hcz34 := Zc2 BK119.out
           have hfz34 := blk_frozen BK119.out
           go_wp2
           refine bodyPost_ret (results_ct rfl _ _ gb119 23 #[.int .i64 (wrap64 (IntKind.u64.wrap (-t125))), .int .i64 x9_14] (0, 0) _ rfl (by (with_reducible repeat (first | refine blk_drewN ?_ _ | refine blk_drew ?_ | refine blk_alloc ?_ _)); refine blk_put (cs := #[.int .i64 (wrap64 (IntKind.u64.wrap (-t125))), .int .i64 0]) ?_ 1 _ rfl; (with_reducible repeat (first | refine blk_drewN ?_ _ | refine blk_drew ?_ | refine blk_alloc ?_ _)); refine blk_put (cs := #[.int .i64 0, .int .i64 0]) ?_ 0 _ rfl; (with_reducible repeat (first | refine blk_drewN ?_ _ | refine blk_drew ?_ | refine blk_alloc ?_ _)); refine blk_far ?_ NB119_131.out _; (with_reducible repeat (first | refine blk_drewN ?_ _ | refine blk_drew ?_ | refine blk_alloc ?_ _)); exact BK119.out) Tryz.underlying23 rfl (by kernel_rfl)) rfl ?_
           exact ⟨Ze, by repeat (first | (with_reducible first | exact HB.out | apply below_alloc | apply pw_below_drewN | apply below_drew1 | refine below_set ?_ GE119.out | refine below_set ?_ GE131.out) | exact HB.out)⟩
          ·rw [if_neg c31] at H
           have c31b0 : (x9_14 == 0) = false := beq_eq_false_iff_ne.mpr c31
           have c31b1 : (x9_14 != 0) = true := bne_iff_ne.mpr c31
           by_cases c35 : (t125 / 9223372036854775808) > 0
           ·rw [if_pos c35] at H
            have c35b0 : decide (0 < (t125 / 9223372036854775808)) = true := decide_eq_true c35
            clear c35
            simp only [Option.some.injEq, Prod.mk.injEq] at H
            obtain ⟨rfl, rfl, rfl⟩ := H
            have hnb36 := NB119_131.out
            have hnc36 := NB131_119.out
            have hcz37 := Zc2 BK119.out
            have hfz37 := blk_frozen BK119.out
            go_wp2
            refine bodyPost_ret (results_ct rfl _ _ gb119 23 #[.int .i64 0, .int .i64 0] (0, 0) _ rfl (by (with_reducible repeat (first | refine blk_drewN ?_ _ | refine blk_drew ?_ | refine blk_alloc ?_ _)); refine blk_put (cs := #[.int .i64 0, .int .i64 0]) ?_ 1 _ rfl; (with_reducible repeat (first | refine blk_drewN ?_ _ | refine blk_drew ?_ | refine blk_alloc ?_ _)); refine blk_put (cs := #[.int .i64 0, .int .i64 0]) ?_ 0 _ rfl; (with_reducible repeat (first | refine blk_drewN ?_ _ | refine blk_drew ?_ | refine blk_alloc ?_ _)); exact BK119.out) Tryz.underlying23 rfl (by kernel_rfl)) rfl ?_
            exact ⟨Ze, by repeat (first | (with_reducible first | exact HB.out | apply below_alloc | apply pw_below_drewN | apply below_drew1 | refine below_set ?_ GE119.out | refine below_set ?_ GE131.out) | exact HB.out)⟩
           ·rw [if_neg c35] at H
            have c35b0 : decide (0 < (t125 / 9223372036854775808)) = false := decide_eq_false c35
            clear c35
            simp only [Option.some.injEq, Prod.mk.injEq] at H
            obtain ⟨rfl, rfl, rfl⟩ := H
            have hnb38 := NB131_119.out
            have hnc38 := NB119_131.out
            have hcz39 := Zc2 BK131.out
            have hfz39 := blk_frozen BK131.out
            have hcz40 := Zc2 BK119.out
            have hfz40 := blk_frozen BK119.out
            go_wp2
            refine bodyPost_ret (results_ct rfl _ _ gb119 23 #[.int .i64 (wrap64 ((wrap64 (-(wrap64 (t125)))) - 1)), .int .i64 (wrap64 (1000000000 - x9_14))] (0, 0) _ rfl (by (with_reducible repeat (first | refine blk_drewN ?_ _ | refine blk_drew ?_ | refine blk_alloc ?_ _)); refine blk_put (cs := #[.int .i64 (wrap64 ((wrap64 (-(wrap64 (t125)))) - 1)), .int .i64 0]) ?_ 1 _ rfl; (with_reducible repeat (first | refine blk_drewN ?_ _ | refine blk_drew ?_ | refine blk_alloc ?_ _)); refine blk_put (cs := #[.int .i64 0, .int .i64 0]) ?_ 0 _ rfl; (with_reducible repeat (first | refine blk_drewN ?_ _ | refine blk_drew ?_ | refine blk_alloc ?_ _)); refine blk_far ?_ NB119_131.out _; (with_reducible repeat (first | refine blk_drewN ?_ _ | refine blk_drew ?_ | refine blk_alloc ?_ _)); refine blk_far ?_ NB119_131.out _; (with_reducible repeat (first | refine blk_drewN ?_ _ | refine blk_drew ?_ | refine blk_alloc ?_ _)); exact BK119.out) Tryz.underlying23 rfl (by kernel_rfl)) rfl ?_
            exact ⟨Ze, by repeat (first | (with_reducible first | exact HB.out | apply below_alloc | apply pw_below_drewN | apply below_drew1 | refine below_set ?_ GE119.out | refine below_set ?_ GE131.out) | exact HB.out)⟩
         ·replace c30 := Bool.eq_false_iff.mpr c30
          subst c30
          rw [Zf] at H
          simp only [Option.some.injEq, Prod.mk.injEq] at H
          obtain ⟨rfl, rfl, rfl⟩ := H
          have hnb41 := NB131_119.out
          have hnc41 := NB119_131.out
          have hcz42 := Zc2 BK131.out
          have hfz42 := blk_frozen BK131.out
          have hcz43 := Zc2 BK119.out
          have hfz43 := blk_frozen BK119.out
          go_wp2
          refine bodyPost_ret (results_ct rfl _ _ gb119 23 #[.int .i64 (wrap64 (t125)), .int .i64 x9_14] (0, 0) _ rfl (by (with_reducible repeat (first | refine blk_drewN ?_ _ | refine blk_drew ?_ | refine blk_alloc ?_ _)); refine blk_put (cs := #[.int .i64 (wrap64 (t125)), .int .i64 0]) ?_ 1 _ rfl; (with_reducible repeat (first | refine blk_drewN ?_ _ | refine blk_drew ?_ | refine blk_alloc ?_ _)); refine blk_put (cs := #[.int .i64 0, .int .i64 0]) ?_ 0 _ rfl; (with_reducible repeat (first | refine blk_drewN ?_ _ | refine blk_drew ?_ | refine blk_alloc ?_ _)); exact BK119.out) Tryz.underlying23 rfl (by kernel_rfl)) rfl ?_
          exact ⟨Ze, by repeat (first | (with_reducible first | exact HB.out | apply below_alloc | apply pw_below_drewN | apply below_drew1 | refine below_set ?_ GE119.out | refine below_set ?_ GE131.out) | exact HB.out)⟩
end Go.Proofs.YtejdmofljifkbaaGreatDoor.P
namespace Go.Proofs.YtejdmofljifkbaaGreatDoor.P
open Go.RowKit Go.Proofs.YtejdmofljifkbaaGreatDoorW.PrintWords Go.Proofs.YtejdmofljifkbaaGreatDoorW.PrintLast Go.Proofs.YtejdmofljifkbaaGreatDoorW.PrintMore
attribute [local go_sem] max2_int min2_int max_two min_two max_three min_three max_four min_four   -- for this text's walks alone
set_option linter.unusedVariables false
set_option linter.unusedSimpArgs false
mutual
def pax_value.j0 : Nat → ByteArray → Int → ByteArray → Bool → Option (Bool)
 | 0, _, _, _, _ => none
 | k + 1, x1, x5, x11, x12 => if x12 = true then ((pax_clean.f x1).bind fun t133 => (some t133)) else (if x11.toList = ([117, 105, 100] : List UInt8) then (pax_value.j1 k x1 x5 x11 (x11.toList == ([117, 105, 100] : List UInt8))) else (if x11.toList = ([103, 105, 100] : List UInt8) then (pax_value.j1 k x1 x5 x11 (x11.toList == ([103, 105, 100] : List UInt8))) else (pax_value.j1 k x1 x5 x11 (x11.toList == ([115, 105, 122, 101] : List UInt8)))))
def pax_value.j1 : Nat → ByteArray → Int → ByteArray → Bool → Option (Bool)
 | 0, _, _, _, _ => none
 | k + 1, x1, x5, x11, x19 => if x19 = true then ((dec_Number.f x1).bind fun bt134 => (some (bt134.2 == 0))) else (if x11.toList = ([109, 116, 105, 109, 101] : List UInt8) then ((dec_Time.f k x1).bind fun bt136 => (some (bt136.2.2 == 0))) else (some (x5 == 0)))
end
def pax_value.f (k : Nat) (a0 : ByteArray) (a1 : ByteArray) : Option (Bool) := (utf_Right.f a1).bind fun t132 => (if t132 = true then (if a1.toList = ([] : List UInt8) then (some true) else (if a0.toList = ([112, 97, 116, 104] : List UInt8) then (pax_value.j0 k a1 0 a0 (a0.toList == ([112, 97, 116, 104] : List UInt8))) else (if a0.toList = ([108, 105, 110, 107, 112, 97, 116, 104] : List UInt8) then (pax_value.j0 k a1 0 a0 (a0.toList == ([108, 105, 110, 107, 112, 97, 116, 104] : List UInt8))) else (if a0.toList = ([117, 110, 97, 109, 101] : List UInt8) then (pax_value.j0 k a1 0 a0 (a0.toList == ([117, 110, 97, 109, 101] : List UInt8))) else (pax_value.j0 k a1 0 a0 (a0.toList == ([103, 110, 97, 109, 101] : List UInt8))))))) else (some false))
set_option maxHeartbeats 8000000 in
set_option maxRecDepth 100000 in
theorem pax_value.calls (k : Nat) (a0 : ByteArray) (a1 : ByteArray) (r : Bool) (w : World) (hG : Glob w) (h : pax_value.f k a0 a1 = some r) :
  Calls Tryz.prog 158 #[.string a0, .string a1] w fun e w' => e = .returned (.bool r) ∧ Below w.heap.size w w' := by
 have HG := Aside0.mk hG; clear hG
 have HB := Aside0.mk (Below.refl w.heap.size w)
 have H : ((utf_Right.f a1).bind fun t132 => (if t132 = true then (if a1.toList = ([] : List UInt8) then (some true) else (if a0.toList = ([112, 97, 116, 104] : List UInt8) then (pax_value.j0 k a1 0 a0 (a0.toList == ([112, 97, 116, 104] : List UInt8))) else (if a0.toList = ([108, 105, 110, 107, 112, 97, 116, 104] : List UInt8) then (pax_value.j0 k a1 0 a0 (a0.toList == ([108, 105, 110, 107, 112, 97, 116, 104] : List UInt8))) else (if a0.toList = ([117, 110, 97, 109, 101] : List UInt8) then (pax_value.j0 k a1 0 a0 (a0.toList == ([117, 110, 97, 109, 101] : List UInt8))) else (pax_value.j0 k a1 0 a0 (a0.toList == ([103, 110, 97, 109, 101] : List UInt8))))))) else (some false))) = some r := h
 clear h
 obtain ⟨t132, A30, H⟩ := Zk H
 have A3 := Aside0.mk A30
 clear A30
 by_cases c4 : t132 = true
 ·subst c4
  rw [if_pos rfl] at H
  by_cases c5 : a1.toList = ([] : List UInt8)
  ·rw [if_pos c5] at H
   have c5b0 : (a1.toList == ([] : List UInt8)) = true := beq_iff_eq.mpr c5
   have c5b1 : (a1.toList != ([] : List UInt8)) = false := bne_eq_false_iff_eq.mpr c5
   clear c5
   obtain rfl := Option.some.inj H
   go_enter Tryz.func158, Tryz.ntmps158
   go_wp2_with (first | ((with_reducible refine gate_callee (f := 156) rfl ?_); refine ZL 7 Tryz.func156 #[.string a1] ?_; (with_reducible refine (utf_Right.calls a1 true _ ?side1 A3.out).mono ?_); (case side1 => exact ZG HG HB); rintro e w6 ⟨rfl, hb⟩; refine ⟨_, rfl, ?_⟩; replace HB := Zs HB hb; try clear hb))
   go_ret
   exact ⟨Ze, Zh HB⟩
  ·rw [if_neg c5] at H
   have c5b0 : (a1.toList == ([] : List UInt8)) = false := beq_eq_false_iff_ne.mpr c5
   have c5b1 : (a1.toList != ([] : List UInt8)) = true := bne_iff_ne.mpr c5
   have HC7 := Aside0.mk H; clear H
   go_enter Tryz.func158, Tryz.ntmps158
   go_upto_if 12 with (first | ((with_reducible refine gate_callee (f := 156) rfl ?_); refine ZL 7 Tryz.func156 #[.string a1] ?_; (with_reducible refine (utf_Right.calls a1 true _ ?side1 A3.out).mono ?_); (case side1 => exact ZG HG HB); rintro e w8 ⟨rfl, hb⟩; refine ⟨_, rfl, ?_⟩; replace HB := Zs HB hb; try clear hb))
   (try simp only [Act.put, List.setIfInBounds_toArray, List.set_cons_zero, List.set_cons_succ])
   go_cut [12] (fun v12 wc => ∃ (kq : Nat) (x12_6 : Bool), v12 = .bool x12_6 ∧ Aside0 (pax_value.j0 kq a1 0 a0 x12_6 = some r) ∧ Aside0 (kq ≤ k) ∧ Aside0 (Below w.heap.size w wc))
   case first =>
    have H := HC7.out
    clear HC7
    by_cases c9 : a0.toList = ([112, 97, 116, 104] : List UInt8)
    ·rw [if_pos c9] at H
     have c9b0 : (a0.toList == ([112, 97, 116, 104] : List UInt8)) = true := beq_iff_eq.mpr c9
     have c9b1 : (a0.toList != ([112, 97, 116, 104] : List UInt8)) = false := bne_eq_false_iff_eq.mpr c9
     clear c9
     (first | rw [c9b0] | (simp only [i64_w, i32_w]; rw [c9b0]) | skip)
     have H' := Aside0.mk H
     clear H
     go_wp2
     go_meet
     case rel => exact ⟨_, ((a0.toList == ([112, 97, 116, 104] : List UInt8))), Zr, H', Zl, ⟨Zh HB⟩⟩
    ·rw [if_neg c9] at H
     have c9b0 : (a0.toList == ([112, 97, 116, 104] : List UInt8)) = false := beq_eq_false_iff_ne.mpr c9
     have c9b1 : (a0.toList != ([112, 97, 116, 104] : List UInt8)) = true := bne_iff_ne.mpr c9
     (first | rw [c9b0] | (simp only [i64_w, i32_w]; rw [c9b0]) | skip)
     by_cases c10 : a0.toList = ([108, 105, 110, 107, 112, 97, 116, 104] : List UInt8)
     ·rw [if_pos c10] at H
      have c10b0 : (a0.toList == ([108, 105, 110, 107, 112, 97, 116, 104] : List UInt8)) = true := beq_iff_eq.mpr c10
      have c10b1 : (a0.toList != ([108, 105, 110, 107, 112, 97, 116, 104] : List UInt8)) = false := bne_eq_false_iff_eq.mpr c10
      clear c10
      have H' := Aside0.mk H
      clear H
      go_wp2
      go_meet
      case rel => exact ⟨_, ((a0.toList == ([108, 105, 110, 107, 112, 97, 116, 104] : List UInt8))), Zr, H', Zl, ⟨Zh HB⟩⟩
     ·rw [if_neg c10] at H
      have c10b0 : (a0.toList == ([108, 105, 110, 107, 112, 97, 116, 104] : List UInt8)) = false := beq_eq_false_iff_ne.mpr c10
      have c10b1 : (a0.toList != ([108, 105, 110, 107, 112, 97, 116, 104] : List UInt8)) = true := bne_iff_ne.mpr c10
      by_cases c11 : a0.toList = ([117, 110, 97, 109, 101] : List UInt8)
      ·rw [if_pos c11] at H
       have c11b0 : (a0.toList == ([117, 110, 97, 109, 101] : List UInt8)) = true := beq_iff_eq.mpr c11
       have c11b1 : (a0.toList != ([117, 110, 97, 109, 101] : List UInt8)) = false := bne_eq_false_iff_eq.mpr c11
       clear c11
       have H' := Aside0.mk H
       clear H
       go_wp2
       go_meet
       case rel => exact ⟨_, ((a0.toList == ([117, 110, 97, 109, 101] : List UInt8))), Zr, H', Zl, ⟨Zh HB⟩⟩
      ·rw [if_neg c11] at H
       have c11b0 : (a0.toList == ([117, 110, 97, 109, 101] : List UInt8)) = false := beq_eq_false_iff_ne.mpr c11
       have c11b1 : (a0.toList != ([117, 110, 97, 109, 101] : List UInt8)) = true := bne_iff_ne.mpr c11
       have H' := Aside0.mk H
       clear H
       go_wp2
       go_meet
       case rel => exact ⟨_, ((a0.toList == ([103, 110, 97, 109, 101] : List UInt8))), Zr, H', Zl, ⟨Zh HB⟩⟩
   case rest =>
    clear HC7
    try clear c1
    try clear p2
    try clear c4
    try clear c5
    try clear c5b0
    try clear c5b1
    try clear c9
    try clear c9b0
    try clear c9b1
    try clear c10
    try clear c10b0
    try clear c10b1
    try clear c11
    try clear c11b0
    try clear c11b1
    obtain ⟨kq, x12_6, rfl, HA, HJ6, HB⟩ := hcut
    cases kq with
    | zero => exact absurd HA.out (by simp [pax_value.j0])
    | succ kj6 =>
     have H := HA.out
     clear HA
     simp only [pax_value.j0] at H
     by_cases c12 : x12_6 = true
     ·subst c12
      rw [if_pos rfl] at H
      obtain ⟨t133, A130, H⟩ := Zk H
      have A13 := Aside0.mk A130
      clear A130
      obtain rfl := Option.some.inj H
      go_wp2_with (first | ((with_reducible refine gate_callee (f := 172) rfl ?_); refine ZL 18 Tryz.func172 #[.string a1] ?_; (with_reducible refine (pax_clean.calls a1 t133 _ A13.out).mono ?_); rintro e w' ⟨rfl, ⟨nd, rfl⟩⟩; refine ⟨_, rfl, ?_⟩))
      go_ret
      exact ⟨Ze, Zh HB⟩
     ·replace c12 := Bool.eq_false_iff.mpr c12
      subst c12
      rw [Zf] at H
      have HC14 := Aside0.mk H; clear H
      go_upto_if 19 with (fail)
      go_cut [19] (fun v19 wc => ∃ (kq : Nat) (x19_13 : Bool), v19 = .bool x19_13 ∧ Aside0 (pax_value.j1 kq a1 0 a0 x19_13 = some r) ∧ Aside0 (kq ≤ kj6) ∧ Aside0 (Below w.heap.size w wc))
      case first =>
       have H := HC14.out
       clear HC14
       by_cases c15 : a0.toList = ([117, 105, 100] : List UInt8)
       ·rw [if_pos c15] at H
        have c15b0 : (a0.toList == ([117, 105, 100] : List UInt8)) = true := beq_iff_eq.mpr c15
        have c15b1 : (a0.toList != ([117, 105, 100] : List UInt8)) = false := bne_eq_false_iff_eq.mpr c15
        clear c15
        (first | rw [c15b0] | (simp only [i64_w, i32_w]; rw [c15b0]) | skip)
        have H' := Aside0.mk H
        clear H
        go_wp2
        go_meet
        case rel => exact ⟨_, ((a0.toList == ([117, 105, 100] : List UInt8))), Zr, H', (Zm HJ6), ⟨Zh HB⟩⟩
       ·rw [if_neg c15] at H
        have c15b0 : (a0.toList == ([117, 105, 100] : List UInt8)) = false := beq_eq_false_iff_ne.mpr c15
        have c15b1 : (a0.toList != ([117, 105, 100] : List UInt8)) = true := bne_iff_ne.mpr c15
        (first | rw [c15b0] | (simp only [i64_w, i32_w]; rw [c15b0]) | skip)
        by_cases c16 : a0.toList = ([103, 105, 100] : List UInt8)
        ·rw [if_pos c16] at H
         have c16b0 : (a0.toList == ([103, 105, 100] : List UInt8)) = true := beq_iff_eq.mpr c16
         have c16b1 : (a0.toList != ([103, 105, 100] : List UInt8)) = false := bne_eq_false_iff_eq.mpr c16
         clear c16
         have H' := Aside0.mk H
         clear H
         go_wp2
         go_meet
         case rel => exact ⟨_, ((a0.toList == ([103, 105, 100] : List UInt8))), Zr, H', (Zm HJ6), ⟨Zh HB⟩⟩
        ·rw [if_neg c16] at H
         have c16b0 : (a0.toList == ([103, 105, 100] : List UInt8)) = false := beq_eq_false_iff_ne.mpr c16
         have c16b1 : (a0.toList != ([103, 105, 100] : List UInt8)) = true := bne_iff_ne.mpr c16
         have H' := Aside0.mk H
         clear H
         go_wp2
         go_meet
         case rel => exact ⟨_, ((a0.toList == ([115, 105, 122, 101] : List UInt8))), Zr, H', (Zm HJ6), ⟨Zh HB⟩⟩
      case rest =>
       clear HC14
       try clear c1
       try clear p2
       try clear c4
       try clear c5
       try clear c5b0
       try clear c5b1
       try clear c9
       try clear c9b0
       try clear c9b1
       try clear c10
       try clear c10b0
       try clear c10b1
       try clear c11
       try clear c11b0
       try clear c11b1
       try clear c12
       try clear c15
       try clear c15b0
       try clear c15b1
       try clear c16
       try clear c16b0
       try clear c16b1
       try clear p2
       obtain ⟨kq, x19_13, rfl, HA, HJ13, HB⟩ := hcut
       cases kq with
       | zero => exact absurd HA.out (by simp [pax_value.j1])
       | succ kj13 =>
        have H := HA.out
        clear HA
        simp only [pax_value.j1] at H
        by_cases c17 : x19_13 = true
        ·subst c17
         rw [if_pos rfl] at H
         obtain ⟨⟨t134, t135⟩, A180, H⟩ := Zk H
         try dsimp only at H
         have A18 := Aside0.mk A180
         clear A180
         obtain rfl := Option.some.inj H
         go_wp2_with (first | ((with_reducible refine gate_callee (f := 173) rfl ?_); refine ZL 25 Tryz.func173 #[.string a1] ?_; (with_reducible refine (dec_Number.calls a1 t134 t135 _ ?side1 A18.out).mono ?_); (case side1 => exact ZG HG HB); rintro e w19 ⟨rfl, hb⟩; refine ⟨_, rfl, ?_⟩; replace HB := Zs HB hb; try clear hb))
         go_ret
         exact ⟨Ze, Zh HB⟩
        ·replace c17 := Bool.eq_false_iff.mpr c17
         subst c17
         rw [Zf] at H
         by_cases c20 : a0.toList = ([109, 116, 105, 109, 101] : List UInt8)
         ·rw [if_pos c20] at H
          have c20b0 : (a0.toList == ([109, 116, 105, 109, 101] : List UInt8)) = true := beq_iff_eq.mpr c20
          have c20b1 : (a0.toList != ([109, 116, 105, 109, 101] : List UInt8)) = false := bne_eq_false_iff_eq.mpr c20
          clear c20
          obtain ⟨⟨t136, t137, t138⟩, A210, H⟩ := Zk H
          try dsimp only at H
          have A21 := Aside0.mk A210
          clear A210
          obtain rfl := Option.some.inj H
          go_wp2_with (first | ((with_reducible refine gate_callee (f := 174) rfl ?_); refine ZL 32 Tryz.func174 #[.string a1] ?_; (with_reducible refine (dec_Time.calls kj13 a1 t136 t137 t138 _ ?side1 A21.out).mono ?_); (case side1 => exact ZG HG HB); rintro e w22 ⟨rfl, hb⟩; refine ⟨_, rfl, ?_⟩; replace HB := Zs HB hb; try clear hb))
          go_ret
          exact ⟨Ze, Zh HB⟩
         ·rw [if_neg c20] at H
          have c20b0 : (a0.toList == ([109, 116, 105, 109, 101] : List UInt8)) = false := beq_eq_false_iff_ne.mpr c20
          have c20b1 : (a0.toList != ([109, 116, 105, 109, 101] : List UInt8)) = true := bne_iff_ne.mpr c20
          obtain rfl := Option.some.inj H
          go_wp2
          go_ret
          exact ⟨Ze, Zh HB⟩
 ·replace c4 := Bool.eq_false_iff.mpr c4
  subst c4
  rw [Zf] at H
  obtain rfl := Option.some.inj H
  go_enter Tryz.func158, Tryz.ntmps158
  go_wp2_with (first | ((with_reducible refine gate_callee (f := 156) rfl ?_); refine ZL 7 Tryz.func156 #[.string a1] ?_; (with_reducible refine (utf_Right.calls a1 false _ ?side1 A3.out).mono ?_); (case side1 => exact ZG HG HB); rintro e w23 ⟨rfl, hb⟩; refine ⟨_, rfl, ?_⟩; replace HB := Zs HB hb; try clear hb))
  go_ret
  exact ⟨Ze, Zh HB⟩
end Go.Proofs.YtejdmofljifkbaaGreatDoor.P
namespace Go.Proofs.YtejdmofljifkbaaGreatDoor.P
open Go.RowKit Go.Proofs.YtejdmofljifkbaaGreatDoorW.PrintWords Go.Proofs.YtejdmofljifkbaaGreatDoorW.PrintLast Go.Proofs.YtejdmofljifkbaaGreatDoorW.PrintMore
def eqNul : ByteArray := ⟨#[61, 0]⟩
theorem dec0 : Utf8.decode eqNul 0 = (61, 1) := by decide +kernel
theorem dec1 : Utf8.decode eqNul 1 = (0, 1) := by decide +kernel
theorem iterAt_below' {w wr : World} (h : Below w.heap.size w wr) (s : ByteArray) (p : Nat) : Below w.heap.size w (wr.iterAt w.heap.size s p) := Lib.below_iterAt h (Nat.le_refl _) s p
set_option maxRecDepth 100000 in
set_option maxHeartbeats 1600000 in
theorem rune_err (w : World) :
  Calls Tryz.prog 180 #[.string eqNul, .int .i32 65533] w fun e w' => e = .returned (.int .i64 (-1)) ∧ Below w.heap.size w w' := by
 go_enter Tryz.func180, Tryz.ntmps180
 go_wp2_with fail
 go_loopg [] 2 (fun gk wr => ∃ n : Nat, Aside0 (n + gk = 2) ∧ Aside0 (wr.heap[w.heap.size]? = some (.stringIter eqNul n)) ∧ Aside0 (Below w.heap.size w wr))
 case atStart => exact ⟨0, ⟨rfl⟩, ⟨World.iter_heap w eqNul 0⟩, ⟨below_alloc (Below.refl _ _) _⟩⟩
 case round =>
  obtain ⟨n, HN, HI, HB⟩ := hrel
  have hn := HN.out
  have h3 : n = 0 ∨ n = 1 ∨ n = 2 := by omega
  rcases h3 with rfl | rfl | rfl
  ·obtain rfl : gk = 2 := by omega
   have hnx : ∀ ty, (Instr.next (.pointer (some ⟨w.heap.size, 0, none⟩)) true ty).run Tryz.prog wr = .ok (.tuple #[.bool true, .int .i64 0, .int .i32 61]) (wr.iterAt w.heap.size eqNul 1) := fun ty => by
    have := Lib.run_next_any_at (P := Tryz.prog) wr w.heap.size eqNul 0 ty HI.out (by decide)
    rw [dec0] at this
    exact this
   have HI2 := Aside0.mk (Lib.iterAt_heap wr w.heap.size eqNul 0 1 HI.out)
   have HB2 := Aside0.mk (iterAt_below' HB.out eqNul 1)
   clear hn HI HB
   go_wp2
   go_roundg 1
   case measure => omega
   case rel => exact ⟨1, ⟨rfl⟩, HI2, HB2⟩
  ·obtain rfl : gk = 1 := by omega
   have hnx : ∀ ty, (Instr.next (.pointer (some ⟨w.heap.size, 0, none⟩)) true ty).run Tryz.prog wr = .ok (.tuple #[.bool true, .int .i64 1, .int .i32 0]) (wr.iterAt w.heap.size eqNul 2) := fun ty => by
    have := Lib.run_next_any_at (P := Tryz.prog) wr w.heap.size eqNul 1 ty HI.out (by decide)
    rw [dec1] at this
    exact this
   have HI2 := Aside0.mk (Lib.iterAt_heap wr w.heap.size eqNul 1 2 HI.out)
   have HB2 := Aside0.mk (iterAt_below' HB.out eqNul 2)
   clear hn HI HB
   go_wp2
   go_roundg 0
   case measure => omega
   case rel => exact ⟨2, ⟨rfl⟩, HI2, HB2⟩
  ·obtain rfl : gk = 0 := by omega
   have hnx : ∀ ty, (Instr.next (.pointer (some ⟨w.heap.size, 0, none⟩)) true ty).run Tryz.prog wr = _ := fun ty => Lib.run_next_end_at wr w.heap.size eqNul 2 ty HI.out (by decide)
   clear hn HI
   go_wp2
   go_ret
   exact ⟨rfl, HB.out⟩
theorem enc_high (r : Int) (h0 : 128 ≤ r) (hv : Lib.validRune r = true) : (∃ x y : UInt8, Utf8.encode r = ⟨#[x, y]⟩ ∧ 128 ≤ y.toNat) ∨ (Utf8.encode r).size = 3 ∨ (Utf8.encode r).size = 4 := by
 have hv2 : Utf8.valid r = true := by
  unfold Utf8.valid
  unfold Lib.validRune at hv
  simp at hv ⊢
  omega
 obtain ⟨n, rfl⟩ := Int.eq_ofNat_of_zero_le (show 0 ≤ r by omega)
 unfold Utf8.encode
 rw [hv2]
 simp only [if_true, Int.toNat_natCast]
 rw [if_neg (by omega)]
 split
 ·exact .inl ⟨_, _, rfl, by simp; omega⟩
 ·split
  ·exact .inr (.inl rfl)
  ·exact .inr (.inr rfl)
set_option maxRecDepth 100000 in
set_option maxHeartbeats 1600000 in
theorem rune_high (r : Int) (w : World) (h0 : 128 ≤ r) (h1 : r ≠ 65533) (hv : Lib.validRune r = true) :
  Calls Tryz.prog 180 #[.string eqNul, .int .i32 r] w fun e w' => e = .returned (.int .i64 (-1)) ∧ Below w.heap.size w w' := by
 have h2 : (r == 65533) = false := by simpa using h1
 have h3 : decide (0 ≤ r) = true := by simp; omega
 have h4 : decide (r < 128) = false := by simp; omega
 have hen := enc_high r h0 hv
 have hsz : ((eqNul.size : Nat) : Int) = 2 := rfl
 rcases hen with ⟨x, y, he, hy⟩ | he | he
 ·have hx : ∀ h : 1 < eqNul.size, eqNul[1]'h = 0 := fun _ => rfl
  have hx2 : ∀ h : 1 < (⟨#[x, y]⟩ : ByteArray).size, (⟨#[x, y]⟩ : ByteArray)[1]'h = y := fun _ => rfl
  have hye : ((0 : Int) == (y.toNat : Int)) = false := by simp; omega
  have hyn : ((0 : Int) != (y.toNat : Int)) = true := by simp; omega
  clear hy
  go_enter Tryz.func180, Tryz.ntmps180
  go_wp2_with fail
  refine (Tryz.utf8_ValidRune r _).mono ?_
  rintro e w' ⟨rfl, rfl⟩
  rw [hv]
  go_wp2_with fail
  go_step3
  go_wp2_with fail
  refine wp_loop_rounds 1 ?_
  rw [rounds_succ]
  go_wp2_with fail
  go_step3
  go_wp2_with fail
  go_quiet (fail)
  go_wp2_with fail
  go_quiet ((go_at_call 55; exact quiet_add_same (Tryz.strings_IndexByte _ _ _)))
  go_wp2_with fail
  rw [Exit.noGoto_ret]
  simp only [Exit.inBlock, Exit.then]
  rw [Exit.noGoto_ret]
  go_ret
  exact ⟨rfl, Drawn0.below ⟨⟨_, rfl⟩⟩⟩
 all_goals
  go_enter Tryz.func180, Tryz.ntmps180
  go_wp2_with fail
  refine (Tryz.utf8_ValidRune r _).mono ?_
  rintro e w' ⟨rfl, rfl⟩
  rw [hv]
  go_wp2_with fail
  go_step3
  go_wp2_with fail
  refine wp_loop_rounds 1 ?_
  rw [rounds_succ]
  go_wp2_with fail
  rw [Exit.noGoto_ret]
  go_ret
  exact ⟨rfl, Below.refl _ _⟩
def barL (l : List UInt8) : Bool := l.any fun c => c == 61 || c == 0
theorem rune_low (c : UInt8) (w : World) (hc : c.toNat < 128) :
  Calls Tryz.prog 180 #[.string eqNul, .int .i32 (c.toNat : Int)] w fun e w' => (∃ v : Int, e = .returned (.int .i64 v) ∧ (0 ≤ v ↔ (c = 61 ∨ c = 0))) ∧ Below w.heap.size w w' := by
 refine (Tryz.strings_IndexRune_ascii eqNul (c.toNat : Int) w (by omega) (by omega)).mono ?_
 rintro e w' ⟨rfl, rfl⟩
 refine ⟨⟨_, rfl, ?_⟩, Below.refl _ _⟩
 have e1 : (c.toNat : Int).toNat.toUInt8 = c := by simp
 have e2 : eqNul.data.toList = [61, 0] := rfl
 rw [e1, e2]
 have e3 : Lib.indexByte [61, 0] c = if 61 == c then 0 else if Lib.indexByte [0] c == -1 then -1 else Lib.indexByte [0] c + 1 := rfl
 have e4 : Lib.indexByte [0] c = if 0 == c then 0 else -1 := rfl
 rw [e3, e4]
 by_cases h1 : c = 61
 ·subst h1; simp
 ·by_cases h2 : c = 0
  ·subst h2; simp
  ·have h3 : (61 == c) = false := by simpa using fun e => h1 e.symm
   have h4 : (0 == c) = false := by simpa using fun e => h2 e.symm
   simp [h1, h2, h3, h4]
theorem dec_ascii (c : UInt8) (t : List UInt8) (h : c.toNat < 128) : Lib.decodeL (c :: t) = (c.toNat, 1) := by
 rw [Lib.decodeL_N]
 exact Lib.decodeN_ascii _ _ _ _ _ h
theorem bar_high (c : UInt8) (h : 128 ≤ c.toNat) : (c == 61 || c == 0) = false := by
 have h1 : ¬ c = 61 := by rintro rfl; simp at h
 have h2 : ¬ c = 0 := by rintro rfl; simp at h
 simp [h1, h2]
theorem dec_bad (p : Nat × Nat) (e : p = (65533, 1)) (c : UInt8) (t : List UInt8) (hb : (c == 61 || c == 0) = false) :
  128 ≤ p.1 ∧ (p.1 = 65533 ∨ Lib.validRune (p.1 : Int) = true) ∧ barL ((c :: t).take p.2) = false := by
 have e1 : p.1 = 65533 := congrArg Prod.fst e
 have e2 : p.2 = 1 := congrArg Prod.snd e
 refine ⟨Nat.le_trans (by omega : 128 ≤ 65533) (Nat.le_of_eq e1.symm), .inl e1, ?_⟩
 rw [e2]
 simp only [List.take_succ_cons, List.take_zero, barL, List.any_cons, List.any_nil, Bool.or_false]
 exact hb
theorem bar_take (l : List UInt8) (k : Nat) (h : ∀ i, i < k → (l.getD i 0 == 61 || l.getD i 0 == 0) = false) : barL (l.take k) = false := by
 unfold barL
 rw [List.any_eq_false]
 intro x hx
 obtain ⟨i, hi⟩ := List.mem_iff_getElem?.1 hx
 rw [List.getElem?_take] at hi
 split at hi
 ·rename_i hk
  have := h i hk
  rw [List.getD_eq_getElem?_getD, hi] at this
  simpa using this
 ·cases hi
theorem wide2 (l : List UInt8) (r : Nat) (h0 : 128 ≤ (l.getD 0 0).toNat) (h1 : (l.getD 1 0).toNat / 64 = 2) (hr : 128 ≤ r) (hv : r < 55296 ∨ (57344 ≤ r ∧ r ≤ 1114111)) (p : Nat × Nat) (k : Nat) (e : p = (r, k))
  (hk : k = 2 ∨ (k = 3 ∧ (l.getD 2 0).toNat / 64 = 2) ∨ (k = 4 ∧ (l.getD 2 0).toNat / 64 = 2 ∧ (l.getD 3 0).toNat / 64 = 2)) :
  128 ≤ p.1 ∧ (p.1 = 65533 ∨ Lib.validRune (p.1 : Int) = true) ∧ barL (l.take p.2) = false := by
 subst e
 refine ⟨hr, .inr ?_, bar_take _ _ fun i hi => bar_high _ ?_⟩
 ·unfold Lib.validRune
  simp
  omega
 ·rcases hk with rfl | ⟨rfl, h2⟩ | ⟨rfl, h2, h3⟩
  ·rcases (by omega : i = 0 ∨ i = 1) with rfl | rfl <;> omega
  ·rcases (by omega : i = 0 ∨ i = 1 ∨ i = 2) with rfl | rfl | rfl <;> omega
  ·rcases (by omega : i = 0 ∨ i = 1 ∨ i = 2 ∨ i = 3) with rfl | rfl | rfl | rfl <;> omega
theorem dec_wide (c : UInt8) (t : List UInt8) (h : 128 ≤ c.toNat) : 128 ≤ (Lib.decodeL (c :: t)).1 ∧ ((Lib.decodeL (c :: t)).1 = 65533 ∨ Lib.validRune ((Lib.decodeL (c :: t)).1 : Int) = true) ∧ barL ((c :: t).take (Lib.decodeL (c :: t)).2) = false := by
 have hb0 := bar_high c h
 rw [Lib.decodeL_N]
 obtain ⟨l, hl⟩ : ∃ l, c :: t = l := ⟨_, rfl⟩
 have hc0 : (l.getD 0 0).toNat = c.toNat := by rw [← hl]; rfl
 have hs := Lib.decodeN_shape l.length (l.getD 0 0).toNat (l.getD 1 0).toNat (l.getD 2 0).toNat (l.getD 3 0).toNat
 rcases hs with ⟨h1, _⟩ | ⟨h1, h2, h3, h4, e⟩ | ⟨h1, h2, h3, h4, h5, h6, e⟩ | ⟨h1, h2, h3, h4, h5, h6, h7, e⟩ | e
 ·omega
 ·rw [hl]
  exact wide2 l _ (by omega) h3 h4 (by omega) _ _ e (.inl rfl)
 ·rw [hl]
  exact wide2 l _ (by omega) h3 (by omega) (by omega) _ _ e (.inr (.inl ⟨rfl, h4⟩))
 ·rw [hl]
  exact wide2 l _ (by omega) h3 (by omega) (by omega) _ _ e (.inr (.inr ⟨rfl, h4, h5⟩))
 ·have := dec_bad _ e c t hb0
  rw [hl] at this ⊢
  exact this
def AnyPost (l : List UInt8) (w : World) (e : Ending) (w' : World) : Prop := (∃ v : Int, e = .returned (.int .i64 v) ∧ (0 ≤ v ↔ barL l = true)) ∧ Below w.heap.size w w'
def RunePost (c : UInt8) (w : World) (e : Ending) (w' : World) : Prop := (∃ v : Int, e = .returned (.int .i64 v) ∧ (0 ≤ v ↔ (c = 61 ∨ c = 0))) ∧ Below w.heap.size w w'
theorem rune_any (c : UInt8) (t : List UInt8) (w : World) :
  Calls Tryz.prog 180 #[.string eqNul, .int .i32 ((Lib.decodeL (c :: t)).1 : Int)] w (RunePost c w) := by
 by_cases h : c.toNat < 128
 ·rw [dec_ascii c t h]
  exact rune_low c w h
 ·have hn : ¬ (c = 61 ∨ c = 0) := by
   rintro (rfl | rfl) <;> simp at h
  obtain ⟨h1, h2, _⟩ := dec_wide c t (by omega)
  obtain ⟨r, hr⟩ : ∃ r, (Lib.decodeL (c :: t)).1 = r := ⟨_, rfl⟩
  rw [hr] at h1 h2 ⊢
  by_cases h3 : r = 65533
  ·subst h3
   exact (rune_err w).mono fun e w' ⟨he, hb⟩ => ⟨⟨_, he, by simp [hn]⟩, hb⟩
  ·have h4 := h2.resolve_left h3
   exact (rune_high r w (by omega) (by omega) h4).mono fun e w' ⟨he, hb⟩ => ⟨⟨_, he, by simp [hn]⟩, hb⟩
theorem dec_step (c : UInt8) (t : List UInt8) (hc : ¬ (c = 61 ∨ c = 0)) : barL (c :: t) = barL ((c :: t).drop (Lib.decodeL (c :: t)).2) := by
 by_cases h : c.toNat < 128
 ·rw [dec_ascii c t h]
  have h1 : (c == 61 || c == 0) = false := by simpa using hc
  show barL (c :: t) = barL t
  simp only [barL, List.any_cons, h1, Bool.false_or]
 ·obtain ⟨_, _, h3⟩ := dec_wide c t (by omega)
  obtain ⟨k, hk⟩ : ∃ k, (Lib.decodeL (c :: t)).2 = k := ⟨_, rfl⟩
  rw [hk] at h3 ⊢
  have : barL (c :: t) = (barL ((c :: t).take k) || barL ((c :: t).drop k)) := by
   unfold barL
   rw [← List.any_append, List.take_append_drop]
  rw [this, h3, Bool.false_or]
theorem decode_pos' {s : ByteArray} {n : Nat} {l : List UInt8} (h : Pos s n l) : Utf8.decode s n = Lib.decodeL l := by rw [← h.dr, Lib.decodeL_drop]
theorem decodeL_ge' (l : List UInt8) : 1 ≤ (Lib.decodeL l).2 := by
 rw [Lib.decodeL_N]
 exact Lib.decodeN_ge1 ..
set_option maxRecDepth 100000 in
set_option maxHeartbeats 1600000 in
theorem index_short (a0 : ByteArray) (w : World) (hs : a0.size ≤ 8) :
  Calls Tryz.prog 171 #[.string a0, .string eqNul] w (AnyPost a0.data.toList w) := by
 have hsz : ((eqNul.size : Nat) : Int) = 2 := rfl
 have hsz2 : eqNul.size = 2 := rfl
 have htl : eqNul.toList = [61, 0] := by rw [Lib.toList_data]; rfl
 have h8 : decide ((a0.size : Int) > 8) = false := by simp; omega
 obtain ⟨B, hB⟩ : ∃ B, barL a0.data.toList = B := ⟨_, rfl⟩
 have HB0 := Lib.hid hB
 have HP0 := Lib.hid (Pos.zero a0)
 have HL0 := Lib.hid (data_length a0)
 clear hB
 go_enter Tryz.func171, Tryz.ntmps171
 go_wp2_with fail
 refine (Tryz.strings_shouldUseASCIISet _ _).mono ?_
 rintro e w' ⟨rfl, rfl⟩
 go_wp2_with fail
 go_loopg [] (a0.size) (fun gk wr => ∃ (n : Nat) (l : List UInt8), Aside0 (Pos a0 n l) ∧ Aside0 (wr.heap[w'.heap.size]? = some (.stringIter a0 n)) ∧ Aside0 (Below w'.heap.size w' wr) ∧ Aside0 (barL l = B) ∧ Aside0 (l.length ≤ gk))
 case atStart => exact ⟨0, _, ⟨HP0.out⟩, ⟨World.iter_heap w' a0 0⟩, ⟨below_alloc (Below.refl _ _) _⟩, ⟨HB0.out⟩, ⟨by rw [HL0.out]; exact Nat.le_refl _⟩⟩
 case round =>
  clear HP0 HL0
  obtain ⟨n, l, HP, HI, HB, HR, HK⟩ := hrel
  cases l with
  | nil =>
   have hn : ¬ n < a0.size := by have := HP.out.len; simp at this; omega
   have hnx : ∀ ty, (Instr.next (.pointer (some ⟨w'.heap.size, 0, none⟩)) true ty).run Tryz.prog wr = _ := fun ty => Lib.run_next_end_at wr w'.heap.size a0 n ty HI.out hn
   clear hn
   go_wp2
   go_ret
   exact ⟨⟨-1, rfl, by rw [HB0.out, ← HR.out]; simp [barL]⟩, HB.out⟩
  | cons c t =>
   have hn : n < a0.size := HP.out.lt
   have hde := decode_pos' HP.out
   have hnx : ∀ ty, (Instr.next (.pointer (some ⟨w'.heap.size, 0, none⟩)) true ty).run Tryz.prog wr = .ok (.tuple #[.bool true, .int .i64 n, .int .i32 (Lib.decodeL (c :: t)).1]) (wr.iterAt w'.heap.size a0 (n + (Lib.decodeL (c :: t)).2)) := fun ty => by
    rw [← hde]
    exact Lib.run_next_any_at wr w'.heap.size a0 n ty HI.out hn
   have HB2 := Lib.hid (iterAt_below' HB.out a0 (n + (Lib.decodeL (c :: t)).2))
   have HI2 := Lib.hid (Lib.iterAt_heap wr w'.heap.size a0 n (n + (Lib.decodeL (c :: t)).2) HI.out)
   have HRN := fun W => Lib.hid (rune_any c t W)
   clear hde hn HI HB
   obtain ⟨R1, hR1⟩ : ∃ R1, (Lib.decodeL (c :: t)).1 = R1 := ⟨_, rfl⟩
   obtain ⟨K1, hK1⟩ : ∃ K1, (Lib.decodeL (c :: t)).2 = K1 := ⟨_, rfl⟩
   rw [hR1] at hnx HRN
   rw [hK1] at hnx HB2 HI2
   have HK1 := Lib.hid hK1
   clear hR1 hK1
   go_wp2_with fail
   refine (HRN _).out.mono ?_
   rintro e w2 ⟨⟨v, rfl, hv⟩, hb2⟩
   have HB3 := Lib.hid (below_step HB2.out hb2)
   have HI3 := Lib.hid ((hb2.block _ ((Array.getElem?_eq_some_iff.1 HI2.out).1)).trans HI2.out)
   clear hb2
   by_cases hc : c = 61 ∨ c = 0
   ·have h0 : decide (0 ≤ v) = true := decide_eq_true (hv.2 hc)
    have hbt : barL (c :: t) = true := by
     simp only [barL, List.any_cons, Bool.or_eq_true]
     left
     simpa using hc
    have HBT := Lib.hid hbt
    clear hv hc hbt
    go_wp2
    go_ret
    exact ⟨⟨n, rfl, by rw [HB0.out, ← HR.out, HBT.out]; simp⟩, HB3.out⟩
   ·have h0 : decide (0 ≤ v) = false := decide_eq_false (fun h => hc (hv.1 h))
    obtain ⟨g, rfl⟩ : ∃ g, gk = g + 1 := ⟨gk - 1, by have := HK.out; simp at this; omega⟩
    have hle := Lib.decodeL_le (c :: t) (by simp)
    have hge := decodeL_ge' (c :: t)
    have hst := dec_step c t hc
    rw [HK1.out] at hle hge hst
    have hlen := HP.out.len
    have hkk := HK.out
    have HPOS : Aside0 (Pos a0 (n + K1) ((c :: t).drop K1)) := ⟨⟨by rw [← List.drop_drop, HP.out.dr], by omega⟩⟩
    have HRES : Aside0 (barL ((c :: t).drop K1) = B) := ⟨by rw [← hst]; exact HR.out⟩
    have HLL : Aside0 (((c :: t).drop K1).length ≤ g) := ⟨by rw [List.length_drop]; omega⟩
    clear hst hle hge hlen hkk hv hc
    go_wp2
    go_roundg g
    case measure => omega
    case rel => exact ⟨n + K1, _, HPOS, ⟨HI3.out⟩, ⟨HB3.out⟩, HRES, HLL⟩
theorem indexAny_bar : ∀ l : List UInt8, (0 ≤ Lib.indexAny l [61, 0] ↔ barL l = true)
 | [] => by simp [Lib.indexAny, barL]
 | b :: l => by
  have ih := indexAny_bar l
  have hge := Lib.indexAny_ge [61, 0] l
  have e : [61, 0].contains b = (b == 61 || b == 0) := by simp [List.contains, List.elem]; cases b == 61 <;> cases b == 0 <;> rfl
  unfold Lib.indexAny
  rw [e]
  simp only [barL, List.any_cons] at ih ⊢
  cases hb : (b == 61 || b == 0) with
  | true => simp
  | false =>
   simp only [Bool.false_eq_true, if_false, Bool.false_or]
   rw [← ih]
   split
   ·rename_i h
    simp at h
    omega
   ·rename_i h
    simp at h
    omega
theorem zero408 : ∀ w, (zeroValue 220).run Tryz.prog w = .ok (.agg (Array.replicate 256 (.bool false))) w :=
 (zero_of_info (P := Tryz.prog) (n := 256) (show (Tryz.prog.info? 220).map (fun i => (i.zero, i.size)) = some (some (.agg (Array.replicate 256 (.bool false))), 256) by kernel_rfl)).1
theorem index_any (a0 : ByteArray) (w : World) (hs : a0.size < 4294967281) :
  Calls Tryz.prog 171 #[.string a0, .string eqNul] w (AnyPost a0.data.toList w) := by
 by_cases h : a0.size ≤ 8
 ·exact index_short a0 w h
 ·refine (Tryz.strings_IndexAny_long zero408 a0 eqNul w (by decide) (by omega) hs (by decide) ?_).mono fun e w' ⟨he, hw⟩ => ⟨⟨_, he, indexAny_bar _⟩, ?_⟩
  ·intro j b hb
   match j, hb with
   | 0, hb => cases hb; decide
   | 1, hb => cases hb; decide
  ·rw [hw]
   exact below_alloc (below_alloc (Below.refl _ _) _) _
def strings_ContainsAny.f (a0 : ByteArray) (a1 : ByteArray) : Option (Bool) := if a1.data.toList = [61, 0] ∧ a0.size < 4294967281 then some (barL a0.data.toList) else none
set_option maxHeartbeats 1600000 in
theorem strings_ContainsAny.calls (a0 : ByteArray) (a1 : ByteArray) (r : Bool) (w : World) (hG : Glob w) (h : strings_ContainsAny.f a0 a1 = some r) :
  Calls Tryz.prog 157 #[.string a0, .string a1] w fun e w' => e = .returned (.bool r) ∧ Below w.heap.size w w' := by
 unfold strings_ContainsAny.f at h
 split at h
 case isFalse => cases h
 rename_i hs
 obtain rfl := Option.some.inj h
 obtain rfl : a1 = eqNul := ext_data (hs.1.trans rfl)
 have HC := Lib.hid (index_any a0 w hs.2)
 clear h hs hG
 go_enter Tryz.func157, Tryz.ntmps157
 go_wp2_with fail
 refine HC.out.mono ?_
 rintro e w' ⟨⟨v, rfl, hv⟩, hb⟩
 have HV := Lib.hid hv
 have HB := Lib.hid hb
 clear hv hb
 go_wp2
 go_ret
 refine ⟨?_, HB.out⟩
 have : decide (0 ≤ v) = barL a0.data.toList := by
  rw [Bool.eq_iff_iff, decide_eq_true_iff]
  exact HV.out
 rw [← this]
 rfl
end Go.Proofs.YtejdmofljifkbaaGreatDoor.P
namespace Go.Proofs.YtejdmofljifkbaaGreatDoor.P
open Go.RowKit Go.Proofs.YtejdmofljifkbaaGreatDoorW.PrintWords Go.Proofs.YtejdmofljifkbaaGreatDoorW.PrintLast Go.Proofs.YtejdmofljifkbaaGreatDoorW.PrintMore
attribute [local go_sem] max2_int min2_int max_two min_two max_three min_three max_four min_four   -- for this text's walks alone
set_option linter.unusedVariables false
set_option linter.unusedSimpArgs false
def pax_Right.f (k : Nat) (a0_0 : ByteArray) (a0_1 : ByteArray) : Option (Bool) := if a0_0.toList = ([] : List UInt8) then (some false) else ((utf_Right.f a0_0).bind fun t140 => (if t140 = true then ((strings_ContainsAny.f a0_0 (⟨#[61, 0]⟩ : ByteArray)).bind fun t141 => (if t141 = true then (some false) else ((pax_value.f k a0_0 a0_1).bind fun t142 => (some t142)))) else (some false)))
set_option maxHeartbeats 8000000 in
set_option maxRecDepth 100000 in
theorem pax_Right.calls (k : Nat) (a0_0 : ByteArray) (a0_1 : ByteArray) (r : Bool) (w : World) (hG : Glob w) (h : pax_Right.f k a0_0 a0_1 = some r) :
  Calls Tryz.prog 132 #[.agg #[.string a0_0, .string a0_1]] w fun e w' => e = .returned (.bool r) ∧ Below w.heap.size w w' := by
 have hu65 := Tryz.underlying65
 have HG := Aside0.mk hG; clear hG
 have HB := Aside0.mk (Below.refl w.heap.size w)
 have H : (if a0_0.toList = ([] : List UInt8) then (some false) else ((utf_Right.f a0_0).bind fun t140 => (if t140 = true then ((strings_ContainsAny.f a0_0 (⟨#[61, 0]⟩ : ByteArray)).bind fun t141 => (if t141 = true then (some false) else ((pax_value.f k a0_0 a0_1).bind fun t142 => (some t142)))) else (some false)))) = some r := h
 clear h
 by_cases c2 : a0_0.toList = ([] : List UInt8)
 ·rw [if_pos c2] at H
  have c2b0 : (a0_0.toList == ([] : List UInt8)) = true := beq_iff_eq.mpr c2
  have c2b1 : (a0_0.toList != ([] : List UInt8)) = false := bne_eq_false_iff_eq.mpr c2
  clear c2
  obtain rfl := Option.some.inj H
  go_enter Tryz.func132, Tryz.ntmps132
  go_wp2_with (first | ((with_reducible refine gate_dst (N := 1) rfl ?_); refine Zbx (N := 1) (cs := #[.string a0_0, .string a0_1]) (t := 65) HB ?_; intro gb139 w3 HB BK139 GE139; have GW139 := GE139; have hcz4 := Zc2 BK139.out; have hfz4 := blk_frozen BK139.out))
  go_ret
  exact ⟨Ze, Zhg HB GE139⟩
 ·rw [if_neg c2] at H
  have c2b0 : (a0_0.toList == ([] : List UInt8)) = false := beq_eq_false_iff_ne.mpr c2
  have c2b1 : (a0_0.toList != ([] : List UInt8)) = true := bne_iff_ne.mpr c2
  obtain ⟨t140, A50, H⟩ := Zk H
  have A5 := Aside0.mk A50
  clear A50
  by_cases c6 : t140 = true
  ·subst c6
   rw [if_pos rfl] at H
   obtain ⟨t141, A70, H⟩ := Zk H
   have A7 := Aside0.mk A70
   clear A70
   by_cases c8 : t141 = true
   ·subst c8
    rw [if_pos rfl] at H
    obtain rfl := Option.some.inj H
    go_enter Tryz.func132, Tryz.ntmps132
    go_wp2_with (first | ((with_reducible refine gate_dst (N := 1) rfl ?_); refine Zbx (N := 1) (cs := #[.string a0_0, .string a0_1]) (t := 65) HB ?_; intro gb139 w9 HB BK139 GE139; have GW139 := GE139; have hcz10 := Zc2 BK139.out; have hfz10 := blk_frozen BK139.out) | (go_at_call 156; (with_reducible refine (utf_Right.calls a0_0 true _ ?side1 A5.out).mono ?_); (case side1 => exact ZGg HG HB GE139); rintro e w11 ⟨rfl, hb⟩; replace BK139 := Zx BK139 hb; replace HB := Zsg HB GE139 hb; try clear hb; have hcz12 := Zc2 BK139.out; have hfz12 := blk_frozen BK139.out) | (go_at_call 157; (with_reducible refine (strings_ContainsAny.calls a0_0 (⟨#[61, 0]⟩ : ByteArray) true _ ?side1 A7.out).mono ?_); (case side1 => exact ZGg HG HB GE139); rintro e w13 ⟨rfl, hb⟩; replace BK139 := Zx BK139 hb; replace HB := Zsg HB GE139 hb; try clear hb))
    go_ret
    exact ⟨Ze, Zhg HB GE139⟩
   ·replace c8 := Bool.eq_false_iff.mpr c8
    subst c8
    rw [Zf] at H
    obtain ⟨t142, A140, H⟩ := Zk H
    have A14 := Aside0.mk A140
    clear A140
    obtain rfl := Option.some.inj H
    go_enter Tryz.func132, Tryz.ntmps132
    go_wp2_with (first | ((with_reducible refine gate_dst (N := 1) rfl ?_); refine Zbx (N := 1) (cs := #[.string a0_0, .string a0_1]) (t := 65) HB ?_; intro gb139 w15 HB BK139 GE139; have GW139 := GE139; have hcz16 := Zc2 BK139.out; have hfz16 := blk_frozen BK139.out) | (go_at_call 156; (with_reducible refine (utf_Right.calls a0_0 true _ ?side1 A5.out).mono ?_); (case side1 => exact ZGg HG HB GE139); rintro e w17 ⟨rfl, hb⟩; replace BK139 := Zx BK139 hb; replace HB := Zsg HB GE139 hb; try clear hb; have hcz18 := Zc2 BK139.out; have hfz18 := blk_frozen BK139.out) | (go_at_call 157; (with_reducible refine (strings_ContainsAny.calls a0_0 (⟨#[61, 0]⟩ : ByteArray) false _ ?side1 A7.out).mono ?_); (case side1 => exact ZGg HG HB GE139); rintro e w19 ⟨rfl, hb⟩; replace BK139 := Zx BK139 hb; replace HB := Zsg HB GE139 hb; try clear hb; have hcz20 := Zc2 BK139.out; have hfz20 := blk_frozen BK139.out) | (go_at_call 158; (with_reducible refine (pax_value.calls k a0_0 a0_1 t142 _ ?side1 A14.out).mono ?_); (case side1 => exact ZGg HG HB GE139); rintro e w21 ⟨rfl, hb⟩; replace BK139 := Zx BK139 hb; replace HB := Zsg HB GE139 hb; try clear hb))
    go_ret
    exact ⟨Ze, Zhg HB GE139⟩
  ·replace c6 := Bool.eq_false_iff.mpr c6
   subst c6
   rw [Zf] at H
   obtain rfl := Option.some.inj H
   go_enter Tryz.func132, Tryz.ntmps132
   go_wp2_with (first | ((with_reducible refine gate_dst (N := 1) rfl ?_); refine Zbx (N := 1) (cs := #[.string a0_0, .string a0_1]) (t := 65) HB ?_; intro gb139 w22 HB BK139 GE139; have GW139 := GE139; have hcz23 := Zc2 BK139.out; have hfz23 := blk_frozen BK139.out) | (go_at_call 156; (with_reducible refine (utf_Right.calls a0_0 false _ ?side1 A5.out).mono ?_); (case side1 => exact ZGg HG HB GE139); rintro e w24 ⟨rfl, hb⟩; replace BK139 := Zx BK139 hb; replace HB := Zsg HB GE139 hb; try clear hb))
   go_ret
   exact ⟨Ze, Zhg HB GE139⟩
end Go.Proofs.YtejdmofljifkbaaGreatDoor.P
