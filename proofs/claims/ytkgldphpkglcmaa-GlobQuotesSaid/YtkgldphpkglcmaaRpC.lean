/- (*strings.Replacer).build at the eight strings. -/
import Derived.Test.YtkgldphpkglcmaaRpB
import Derived.Lib.JoinLaws
import Derived.Deep.WholeRow
namespace Go.Proofs.Ytkgldphpkglcmaa.Rp
open Go.RowKit Go.MuLone Go.Proofs.YtkgldphpkglcmaaW.PrintWords Go.Proofs.YtkgldphpkglcmaaW.PrintLast Go.Proofs.YtkgldphpkglcmaaW.PrintMore
set_option linter.unusedVariables false
theorem onv_at (j : Nat) (x : ByteArray) (h : ons[j]? = some x) : onv[j]? = some (.string x) := by simp [onv, h]
/-- the strings as they lie. -/
structure Old (w : World) (b g cap : Nat) : Prop where
  c4 : w.cell? ⟨b, 4, none⟩ = some (.slice (some ⟨g, 0, none⟩) 8 cap)
  at_ : ∀ j x, ons[j]? = some x → w.cell? ⟨g, j, none⟩ = some (.string x)
/-- the byteStringReplacer's cells as they are made. -/
noncomputable def bz (w : World) : Array Value := Try.zeroCells96.setIfInBounds 256 (.slice (some ⟨w.heap.size, 0, none⟩) 0 4)
theorem zc_size : Try.zeroCells96.size = 257 := by kernel_rfl
theorem zc_info : (Try.prog.info? 96).map (·.size) = some 257 := by kernel_rfl
theorem zc_one : Try.zeroCells96.all (·.oneCell') = true := by kernel_rfl
theorem zc_at (i : Nat) (h : i < 256) : Try.zeroCells96[i]? = some (.slice none 0 0) := by
  have : ∀ i : Fin 256, Try.zeroCells96[i.1]? = some (.slice none 0 0) := by
    have e : Try.zeroCells96 = (List.replicate 257 (Value.slice none 0 0)).toArray := by kernel_rfl
    rw [e]
    intro i
    have := i.2
    rw [List.getElem?_toArray, List.getElem?_replicate, if_pos (by omega)]
  exact this ⟨i, h⟩
theorem bz_size (w : World) : (bz w).size = 257 := by unfold bz; rw [Array.size_setIfInBounds]; exact zc_size
theorem all_set {a : Array Value} (h : a.all (·.oneCell') = true) (i : Nat) {v : Value} (hv : v.oneCell' = true) : (a.setIfInBounds i v).all (·.oneCell') = true := by
  rw [Array.all_eq_true] at *
  intro j hj
  have hj2 : j < a.size := by simpa using hj
  rw [Array.getElem_setIfInBounds]
  split
  · exact hv
  · exact h j hj2
theorem bz_one (w : World) : (bz w).all (·.oneCell') = true := all_set zc_one 256 rfl
def os4 : List UInt8 := [92, 91, 63, 42]
/-- the byteStringReplacer's block c as it is filled: behind j pairs. -/
structure BB (w W : World) (c j : Nat) (cs : Array Value) (v : Value) : Prop where
  blk : W.heap[c]? = some (.cells cs 96 (0, 0))
  sz : cs.size = 257
  non : ∀ i, i < 256 → (∀ x ∈ os4.take j, i ≠ x.toNat) → cs[i]? = some (.slice none 0 0)
  som : ∀ x ∈ os4.take j, ∃ g cap bs fr, cs[x.toNat]? = some (.slice (some ⟨g, 0, none⟩) 2 cap) ∧ W.heap[g]? = some (.cells bs 5 fr) ∧ bs[0]? = some (.int .u8 92) ∧ bs[1]? = some (.int .u8 (x.toNat : Int))
  v256 : cs[256]? = some v
  own : W.ownsRow w.heap.size 9 1 v j ((os4.take j).map fun x => Value.string ⟨#[x]⟩)
  bel : Below w.heap.size w W
  hc : w.heap.size ≤ c
theorem BB.lt {w W : World} {c j : Nat} {cs : Array Value} {v : Value} (h : BB w W c j cs v) : c < W.heap.size := (Array.getElem?_eq_some_iff.1 h.blk).1
theorem BB.apart {w W : World} {c j : Nat} {cs : Array Value} {v : Value} (h : BB w W c j cs v) {k : Nat} {bs : Array Value} {t : TypeId} {fr : Nat × Nat} (hk : W.heap[k]? = some (.cells bs t fr)) (ht : t ≠ 9) : v.ownBlock ≠ some k := by
  intro e
  obtain ⟨cells, hx⟩ := own_typed h.own k e
  rw [hk] at hx
  injection hx with hx
  injection hx with _ hx
  exact ht hx
theorem BB.start (w : World) (L : Array Value) (hL : L.size = 4) : BB w ((w.alloc (.cells L 9)).alloc (.cells (bz w) 96)) (w.heap.size + 1) 0 (bz w) (.slice (some ⟨w.heap.size, 0, none⟩) 0 4) := by
  refine ⟨?_, bz_size w, fun i hi _ => ?_, fun x hx => by simp [os4] at hx, ?_, ?_, ?_, by omega⟩
  · have := heap_alloc_new (w.alloc (.cells L 9)) (.cells (bz w) 96)
    rwa [World.size_alloc] at this
  · unfold bz
    rw [Array.getElem?_setIfInBounds_ne (by omega)]
    exact zc_at i hi
  · unfold bz
    rw [Array.getElem?_setIfInBounds_self_of_lt (by rw [zc_size]; omega)]
  · refine (World.ownsRow.alloc ?_ _)
    have := World.ownsRow_made (base := w.heap.size) (e := 9) (size := 1) w L 4 (Nat.le_refl _) (by simp [maxLen]) (by rw [hL])
    simpa using this
  · exact ((Below.refl _ w).alloc (Nat.le_refl _) _).alloc (by simp) _
theorem os_ne : ∀ j, j < 4 → ∀ o, os4[j]? = some o → ∀ x ∈ os4.take j, x.toNat ≠ o.toNat := by
  intro j hj o ho x hx
  have : j = 0 ∨ j = 1 ∨ j = 2 ∨ j = 3 := by omega
  rcases this with rfl | rfl | rfl | rfl
  · obtain rfl : (92 : UInt8) = o := Option.some.inj ho
    exact (by decide : ∀ x ∈ os4.take 0, x.toNat ≠ (92 : UInt8).toNat) x hx
  · obtain rfl : (91 : UInt8) = o := Option.some.inj ho
    exact (by decide : ∀ x ∈ os4.take 1, x.toNat ≠ (91 : UInt8).toNat) x hx
  · obtain rfl : (63 : UInt8) = o := Option.some.inj ho
    exact (by decide : ∀ x ∈ os4.take 2, x.toNat ≠ (63 : UInt8).toNat) x hx
  · obtain rfl : (42 : UInt8) = o := Option.some.inj ho
    exact (by decide : ∀ x ∈ os4.take 3, x.toNat ≠ (42 : UInt8).toNat) x hx
theorem os_take (j : Nat) (o : UInt8) (ho : os4[j]? = some o) : os4.take (j + 1) = os4.take j ++ [o] := by
  rw [List.take_add_one, ho]; rfl
/-- one pair more. -/
theorem BB.step {w W W0 W1 : World} {c j : Nat} {cs : Array Value} {v : Value} (h : BB w W c j cs v) (hj : j < 4) (o : UInt8) (ho : os4[j]? = some o) (hb0 : Below W.heap.size W W0) {g1 cap1 : Nat}
    (hg : W0.grownBy W1 v.ownBlock) (hown : W1.ownsRow w.heap.size 9 1 (.slice (some ⟨g1, 0, none⟩) (j + 1) cap1) (j + 1) ((os4.take j).map (fun x => Value.string ⟨#[x]⟩) ++ [.string ⟨#[o]⟩])) (n : ByteArray) (hn : n = ⟨#[92, o]⟩) (cap : Nat) :
    ∃ cs', BB w ((Lib.bytesWorld (W1.setCell ⟨c, 256, none⟩ (.slice (some ⟨g1, 0, none⟩) (j + 1) cap1)) 5 n).setCell ⟨c, o.toNat, none⟩ (.slice (some ⟨W1.heap.size, 0, none⟩) 2 cap)) c (j + 1) cs' (.slice (some ⟨g1, 0, none⟩) (j + 1) cap1) := by
  subst hn
  have ho256 : o.toNat < 256 := o.toNat_lt
  obtain ⟨V, hV⟩ : ∃ V : Value, V = .slice (some ⟨g1, 0, none⟩) (j + 1) cap1 := ⟨_, rfl⟩
  rw [← hV] at hown ⊢
  -- a block of another type, from W on
  have keep : ∀ (k : Nat) (bs : Array Value) (t : TypeId) (fr : Nat × Nat), W.heap[k]? = some (.cells bs t fr) → t ≠ 9 → W1.heap[k]? = some (.cells bs t fr) := by
    intro k bs t fr hk ht
    have hlt := (Array.getElem?_eq_some_iff.1 hk).1
    have h0 : W0.heap[k]? = some (.cells bs t fr) := (hb0.block k hlt).trans hk
    exact (hg.block k (Array.getElem?_eq_some_iff.1 h0).1 (fun e => h.apart hk ht e.symm)).trans h0
  have hB1 : W1.heap[c]? = some (.cells cs 96 (0, 0)) := keep c cs _ _ h.blk (by decide)
  have hlt1 : c < W1.heap.size := (Array.getElem?_eq_some_iff.1 hB1).1
  have hB2 := heap_setCell_same W1 c 256 cs 96 V hB1
  have hs2 : (W1.setCell ⟨c, 256, none⟩ V).heap.size = W1.heap.size := by simp [World.setCell]
  have hB3 : (Lib.bytesWorld (W1.setCell ⟨c, 256, none⟩ V) 5 ⟨#[92, o]⟩).heap[c]? = some (.cells (cs.setIfInBounds 256 V) 96 (0, 0)) := (Lib.bytesWorld_at_old _ _ _ c (by rw [hs2]; exact hlt1)).trans hB2
  have hB4 := heap_setCell_same _ c o.toNat _ 96 (.slice (some ⟨W1.heap.size, 0, none⟩) 2 cap) hB3
  have old : ∀ k, k ≠ c → k < W1.heap.size → ((Lib.bytesWorld (W1.setCell ⟨c, 256, none⟩ V) 5 ⟨#[92, o]⟩).setCell ⟨c, o.toNat, none⟩ (.slice (some ⟨W1.heap.size, 0, none⟩) 2 cap)).heap[k]? = W1.heap[k]? := by
    intro k hk hlt
    rw [Below.heap_setCell _ _ _ k hk, Lib.bytesWorld_at_old _ _ _ k (by rw [hs2]; exact hlt), Below.heap_setCell _ _ _ k hk]
  have hnew : ((Lib.bytesWorld (W1.setCell ⟨c, 256, none⟩ V) 5 ⟨#[92, o]⟩).setCell ⟨c, o.toNat, none⟩ (.slice (some ⟨W1.heap.size, 0, none⟩) 2 cap)).heap[W1.heap.size]? = some (.cells (Lib.bytesCells (W1.setCell ⟨c, 256, none⟩ V) 5 ⟨#[92, o]⟩) 5 ((Lib.bytesCells (W1.setCell ⟨c, 256, none⟩ V) 5 ⟨#[92, o]⟩).size, (Lib.bytesCells (W1.setCell ⟨c, 256, none⟩ V) 5 ⟨#[92, o]⟩).size + 1)) := by
    rw [Below.heap_setCell _ _ _ _ (by show W1.heap.size ≠ c; omega)]
    have := Lib.bytesWorld_at_new (W1.setCell ⟨c, 256, none⟩ V) 5 ⟨#[92, o]⟩
    rwa [hs2] at this
  have hcell : ∀ i, i < 2 → (Lib.bytesCells (W1.setCell ⟨c, 256, none⟩ V) 5 ⟨#[92, o]⟩)[i]? = some (.int .u8 (([92, o] : List UInt8).getD i 0).toNat) := by
    intro i hi
    have h1 := Lib.bytesWorld_cell (W1.setCell ⟨c, 256, none⟩ V) 5 ⟨#[92, o]⟩ i hi
    rw [cell_of_row _ _ _ _ _ _ (Lib.bytesWorld_at_new (W1.setCell ⟨c, 256, none⟩ V) 5 ⟨#[92, o]⟩)] at h1
    exact h1
  have hoc : V.ownBlock ≠ some c := by
    intro e
    obtain ⟨cells, hx⟩ := own_typed hown c e
    rw [hB1] at hx
    injection hx with hx
    injection hx with _ hx
    exact absurd hx (by decide)
  refine ⟨_, hB4, by simp [h.sz], fun i hi hx => ?_, fun x hx => ?_, ?_, ?_, ?_, h.hc⟩
  · rw [os_take j o ho] at hx
    have hio : o.toNat ≠ i := fun e => hx o (by simp) e.symm
    rw [Array.getElem?_setIfInBounds_ne hio, Array.getElem?_setIfInBounds_ne (by omega)]
    exact h.non i hi (fun x hx' => hx x (by simp [hx']))
  · rw [os_take j o ho] at hx
    rcases List.mem_append.1 hx with hx | hx
    · obtain ⟨g, cap', bs, fr, e1, e2, e3, e4⟩ := h.som x hx
      have hgc : g ≠ c := by
        rintro rfl
        have := h.blk.symm.trans e2
        injection this with this
        injection this with _ this
        exact absurd this (by decide)
      refine ⟨g, cap', bs, fr, ?_, ?_, e3, e4⟩
      · rw [Array.getElem?_setIfInBounds_ne (os_ne j hj o ho x hx).symm, Array.getElem?_setIfInBounds_ne (by have := x.toNat_lt; omega)]
        exact e1
      · have h1 := keep g bs _ fr e2 (by decide)
        rw [old g hgc (Array.getElem?_eq_some_iff.1 h1).1]
        exact h1
    · obtain rfl := List.mem_singleton.1 hx
      refine ⟨W1.heap.size, cap, _, _, ?_, hnew, hcell 0 (by omega), hcell 1 (by omega)⟩
      rw [Array.getElem?_setIfInBounds_self_of_lt (by simp [h.sz]; omega)]
  · rw [Array.getElem?_setIfInBounds_ne (by omega), Array.getElem?_setIfInBounds_self_of_lt (by rw [h.sz]; omega)]
  · rw [os_take j o ho, List.map_append]
    exact own_move hown (fun k hk => old k (fun e => hoc (by rw [hk, e])) (by
      obtain ⟨cells, hx⟩ := own_typed hown k hk
      exact (Array.getElem?_eq_some_iff.1 hx).1))
  · have b0 : Below w.heap.size w W0 := h.bel.trans (hb0.mono h.bel.size)
    have b1 : Below w.heap.size w W1 := b0.grown hg b0.size (fun k e => by
      obtain ⟨cells, hx⟩ := own_typed h.own k e
      have := h.own.lt k e
      exact this.1)
    exact (bytes_below (b1.setCell (p := ⟨c, 256, none⟩) h.hc _) (by rw [hs2]; exact b1.size) _ _).setCell (p := ⟨c, o.toNat, none⟩) h.hc _
theorem BB.keepC {w W W0 W1 : World} {c j : Nat} {cs : Array Value} {v : Value} (h : BB w W c j cs v) (hb0 : Below W.heap.size W W0) (hg : W0.grownBy W1 v.ownBlock) : W1.heap[c]? = some (.cells cs 96 (0, 0)) := by
  have h0 : W0.heap[c]? = some (.cells cs 96 (0, 0)) := (hb0.block c h.lt).trans h.blk
  exact (hg.block c (Array.getElem?_eq_some_iff.1 h0).1 (fun e => h.apart h.blk (by decide) e.symm)).trans h0
theorem BB.mid {w W W0 W1 : World} {c j : Nat} {cs : Array Value} {v : Value} (h : BB w W c j cs v) (hb0 : Below W.heap.size W W0) (hg : W0.grownBy W1 v.ownBlock) (V : Value) (o : Nat) (ho : o < 256) (hn : cs[o]? = some (.slice none 0 0)) :
    (∀ i, W1.frozen? ⟨c, i, none⟩ = false) ∧ W1.cell? ⟨c, 256, none⟩ = some v ∧ (∀ s, (Lib.bytesWorld (W1.setCell ⟨c, 256, none⟩ V) 5 s).cell? ⟨c, o, none⟩ = some (.slice none 0 0)) ∧ ∀ s, (Lib.bytesWorld (W1.setCell ⟨c, 256, none⟩ V) 5 s).frozen? ⟨c, o, none⟩ = false := by
  have hk := h.keepC hb0 hg
  have hs := heap_setCell_same W1 c 256 cs 96 V hk
  have hlt : c < (W1.setCell ⟨c, 256, none⟩ V).heap.size := (Array.getElem?_eq_some_iff.1 hs).1
  have hB : ∀ s, (Lib.bytesWorld (W1.setCell ⟨c, 256, none⟩ V) 5 s).heap[c]? = some (.cells (cs.setIfInBounds 256 V) 96 (0, 0)) := fun s => (Lib.bytesWorld_at_old _ _ _ c hlt).trans hs
  refine ⟨fun i => frozen_of_row _ _ i _ _ hk, (cell_of_row _ _ _ _ _ _ hk).trans h.v256, fun s => (cell_of_row _ _ _ _ _ _ (hB s)).trans ?_, fun s => frozen_of_row _ _ _ _ _ (hB s)⟩
  rw [Array.getElem?_setIfInBounds_ne (by omega)]
  exact hn
def BuildPost (w : World) (e : Ending) (w' : World) : Prop := ∃ c cs v, e = .returned (.iface 97 (.pointer (some ⟨c, 0, none⟩))) ∧ BB w w' c 4 cs v
set_option maxRecDepth 100000 in
set_option maxHeartbeats 3200000 in
theorem build_any (b g cap : Nat) (w : World) (h : Old w b g cap) :
    Calls Try.prog 34 #[.pointer (some ⟨b, 0, none⟩)] w fun e w' => BuildPost w e w' := by
  obtain ⟨i9, hi9, hzz⟩ := Option.map_eq_some_iff.1 info9
  simp only [Prod.mk.injEq] at hzz
  obtain ⟨hz9, hs9, hb9⟩ := hzz
  have c4 := h.c4
  have s0 := h.at_ 0 _ rfl
  have s1 := h.at_ 1 _ rfl
  have s2 := h.at_ 2 _ rfl
  have s3 := h.at_ 3 _ rfl
  have s4 := h.at_ 4 _ rfl
  have s5 := h.at_ 5 _ rfl
  have s6 := h.at_ 6 _ rfl
  have s7 := h.at_ 7 _ rfl
  go_enter Try.func34, Try.ntmps34
  go_wp2_with fail
  go_loopg [5, 4] 4 (fun gk v5 v4 wr => ∃ j : Nat, j + gk = 4 ∧ v5 = .int .i64 ((2 * j : Nat) : Int) ∧ v4 = .bool (decide (j = 0)) ∧ w = wr)
  case atStart => exact ⟨0, rfl, rfl, rfl, rfl⟩
  case round =>
    obtain ⟨j, hj, rfl, rfl, rfl⟩ := hrel
    have hj4 : j = 0 ∨ j = 1 ∨ j = 2 ∨ j = 3 ∨ j = 4 := by omega
    rcases hj4 with rfl | rfl | rfl | rfl | rfl
    · obtain rfl : gk = 4 := by omega
      go_wp2
      go_roundg 3
      case measure => omega
      case rel => exact ⟨1, rfl, rfl, rfl, rfl⟩
    · obtain rfl : gk = 3 := by omega
      go_wp2
      go_roundg 2
      case measure => omega
      case rel => exact ⟨2, rfl, rfl, rfl, rfl⟩
    · obtain rfl : gk = 2 := by omega
      go_wp2
      go_roundg 1
      case measure => omega
      case rel => exact ⟨3, rfl, rfl, rfl, rfl⟩
    · obtain rfl : gk = 1 := by omega
      go_wp2
      go_roundg 0
      case measure => omega
      case rel => exact ⟨4, rfl, rfl, rfl, rfl⟩
    · obtain rfl : gk = 0 := by omega
      have hmk : ∀ W : World, (Instr.makeSlice 60 (.int .i64 0) (.int .i64 4)).run Try.prog W = .ok (.slice (some ⟨W.heap.size, 0, none⟩) 0 4) (W.alloc (.cells (madeCells #[.string ⟨#[]⟩] 4) 9)) := fun W => run_make_room 60 9 (.string ⟨#[]⟩) 16 Try.underlying60 info9 rfl .i64 .i64 4 (by omega) (by omega) W
      have hbk : Try.zeroCells96.setIfInBounds 256 (.slice (some ⟨w.heap.size, 0, none⟩) 0 4) = bz w := rfl
      go_upto_region 26 with (fail)
      have hsc : (storeCells ⟨w.heap.size + 1, 0, none⟩ (bz w).toList).run Try.prog ((w.alloc (.cells (madeCells #[.string ⟨#[]⟩] 4) 9)).alloc (.cells Try.zeroCells96 96)) = .ok () ((w.alloc (.cells (madeCells #[.string ⟨#[]⟩] 4) 9)).alloc (.cells (bz w) 96)) := by
        have h1 := run_storeCells_new (P := Try.prog) (w.alloc (.cells (madeCells #[.string ⟨#[]⟩] 4) 9)) 96 Try.zeroCells96 (bz w) (by rw [bz_size]; exact zc_info) (by rw [bz_size, zc_size]) (bz_one w)
        have e : (w.alloc (.cells (madeCells #[.string ⟨#[]⟩] 4) 9)).heap.size = w.heap.size + 1 := by simp
        rw [e] at h1
        exact h1
      go_wp2_with fail
      clear hsc hmk hbk
      have HS := Lib.hid (BB.start w (madeCells #[.string ⟨#[]⟩] 4) (by simp [madeCells]))
      have HO := Lib.hid h
      obtain ⟨W, hW⟩ : ∃ W, (w.alloc (.cells (madeCells #[.string ⟨#[]⟩] 4) 9)).alloc (.cells (bz w) 96) = W := ⟨_, rfl⟩
      obtain ⟨C, hC⟩ : ∃ C, w.heap.size + 1 = C := ⟨_, rfl⟩
      rw [hW, hC] at HS
      rw [hW, hC]
      clear hW c4 s0 s1 s2 s3 s4 s5 s6 s7 h
      go_loopg [12] 4 (fun gk v12 wr => ∃ (j : Nat) (cs : Array Value) (v : Value), j + gk = 4 ∧ v12 = .int .i64 (6 - 2 * (j : Int)) ∧ Aside0 (BB w wr C j cs v))
      case atStart => exact ⟨0, _, _, rfl, rfl, ⟨HS.out⟩⟩
      case round =>
        clear HS
        obtain ⟨j, cs, v, hj, rfl, HB⟩ := hrel
        cases gk with
        | zero =>
          obtain rfl : j = 4 := by omega
          go_wp2
          go_ret
          exact ⟨C, cs, v, rfl, HB.out⟩
        | succ gk =>
          have hj4 : j = 0 ∨ j = 1 ∨ j = 2 ∨ j = 3 := by omega
          rcases hj4 with rfl | rfl | rfl | rfl
          · have bel := HB.out.bel
            have k0 : wr.cell? ⟨g, 6, none⟩ = some (.string ⟨#[92]⟩) := (bel.cell (World.block_lt_of_cell? w _ (HO.out.at_ 6 _ rfl))).trans (HO.out.at_ 6 _ rfl)
            have k1 : wr.cell? ⟨g, 7, none⟩ = some (.string ⟨#[92, 92]⟩) := (bel.cell (World.block_lt_of_cell? w _ (HO.out.at_ 7 _ rfl))).trans (HO.out.at_ 7 _ rfl)
            have kc : wr.cell? ⟨C, 92, none⟩ = some (.slice none 0 0) := (cell_of_row _ _ _ _ _ _ HB.out.blk).trans (HB.out.non 92 (by omega) (by decide))
            have kv : wr.cell? ⟨C, 256, none⟩ = some v := (cell_of_row _ _ _ _ _ _ HB.out.blk).trans HB.out.v256
            have kf : ∀ i, wr.frozen? ⟨C, i, none⟩ = false := fun i => frozen_of_row _ _ i _ _ HB.out.blk
            have hlt := HB.out.lt
            have hcv : (convert 93 9 (.slice (some ⟨wr.heap.size, 0, none⟩) 1 1)).run Try.prog (wr.alloc (.cells #[.int .u8 92] 5)) = .ok (.string ⟨#[92]⟩) (wr.alloc (.cells #[.int .u8 92] 5)) :=
              run_convert_bytes_arg _ 93 5 Try.underlying93 Try.underlying5 wr.heap.size 0 1 1 [92] rfl (fun i hi => by
                obtain rfl : i = 0 := by omega
                exact cell_of_row _ _ _ _ _ _ (heap_alloc_new wr _)) 9 Try.underlying9
            have hpb := fun W => print_bytes (P := Try.prog) 9 93 5 Try.underlying9 Try.underlying93 Try.underlying5 ⟨#[92, 92]⟩ W
            have hnw : ∀ (q : Nat) (u : Value), ([.string ⟨#[92]⟩] : List Value)[q]? = some u → ((wr.alloc (.cells #[.int .u8 92] 5)).alloc (.cells #[.string ⟨#[92]⟩] 9)).cell? ((⟨wr.heap.size + 1, 0, none⟩ : Addr).add q) = some u := by
              intro q u hu
              have : q = 0 := by
                have := (List.getElem?_eq_some_iff.1 hu).1
                simpa using this
              subst this
              have := cell_of_row _ _ 0 _ _ _ (heap_alloc_new (wr.alloc (.cells #[.int .u8 92] 5)) (.cells #[.string ⟨#[92]⟩] 9))
              rw [World.size_alloc] at this
              exact this.trans hu
            have heq : (binOp .eql 93 (.slice none 0 0) (.slice none 0 0)).run Try.prog wr = .ok (.bool true) wr := Lib.run_eql_slice_nil wr 93 5 none 0 0 0 0 Try.underlying93
            have hby : ∀ hh : 0 < (⟨#[92]⟩ : ByteArray).size, ((⟨#[92]⟩ : ByteArray)[0]'hh).toNat = 92 := fun _ => rfl
            have hb0 : Below wr.heap.size wr ((wr.alloc (.cells #[.int .u8 92] 5)).alloc (.cells #[.string ⟨#[92]⟩] 9)) := ((Below.refl _ wr).alloc (Nat.le_refl _) _).alloc (by simp) _
            go_wp2_with (at_builtin; refine wpList_append_lies _ rfl (.tmp 119) (.tmp 123) 60 rfl w.heap.size 9 i9 _ 1 16 Try.underlying60 hi9 hz9 hs9 hb9 rfl (by omega) v 0 [] rfl ((HB.out.own.alloc _).alloc _) ⟨wr.heap.size + 1, 0, none⟩ 1 1 [.string ⟨#[92]⟩] rfl rfl hnw (by simp [Value.oneCell']) (by omega) (by unfold maxLen; omega) (by omega) (by have := bel.size; simp; omega) _ rfl ?_; intro g1 cap1 w2 hown2 hgr2 hat2 hlt2; obtain ⟨m1, m2, m3, m4⟩ := HB.out.mid hb0 hgr2 (.slice (some ⟨g1, 0, none⟩) 1 cap1) 92 (by omega) (HB.out.non 92 (by omega) (by decide)); have m5 := m1 256; have m6 : C < w2.heap.size := (Array.getElem?_eq_some_iff.1 (HB.out.keepC hb0 hgr2)).1; clear m1; have FIN := Lib.hid (fun cap => HB.out.step (by omega) 92 rfl hb0 hgr2 hown2 ⟨#[92, 92]⟩ rfl cap); clear hown2 hgr2 hat2)
            go_roundg gk
            case measure => omega
            case rel =>
              obtain ⟨cs', hcs'⟩ := FIN.out _
              exact ⟨1, cs', _, by omega, rfl, ⟨hcs'⟩⟩
          · have bel := HB.out.bel
            have k0 : wr.cell? ⟨g, 4, none⟩ = some (.string ⟨#[91]⟩) := (bel.cell (World.block_lt_of_cell? w _ (HO.out.at_ 4 _ rfl))).trans (HO.out.at_ 4 _ rfl)
            have k1 : wr.cell? ⟨g, 5, none⟩ = some (.string ⟨#[92, 91]⟩) := (bel.cell (World.block_lt_of_cell? w _ (HO.out.at_ 5 _ rfl))).trans (HO.out.at_ 5 _ rfl)
            have kc : wr.cell? ⟨C, 91, none⟩ = some (.slice none 0 0) := (cell_of_row _ _ _ _ _ _ HB.out.blk).trans (HB.out.non 91 (by omega) (by decide))
            have kv : wr.cell? ⟨C, 256, none⟩ = some v := (cell_of_row _ _ _ _ _ _ HB.out.blk).trans HB.out.v256
            have kf : ∀ i, wr.frozen? ⟨C, i, none⟩ = false := fun i => frozen_of_row _ _ i _ _ HB.out.blk
            have hlt := HB.out.lt
            have hcv : (convert 93 9 (.slice (some ⟨wr.heap.size, 0, none⟩) 1 1)).run Try.prog (wr.alloc (.cells #[.int .u8 91] 5)) = .ok (.string ⟨#[91]⟩) (wr.alloc (.cells #[.int .u8 91] 5)) :=
              run_convert_bytes_arg _ 93 5 Try.underlying93 Try.underlying5 wr.heap.size 0 1 1 [91] rfl (fun i hi => by
                obtain rfl : i = 0 := by omega
                exact cell_of_row _ _ _ _ _ _ (heap_alloc_new wr _)) 9 Try.underlying9
            have hpb := fun W => print_bytes (P := Try.prog) 9 93 5 Try.underlying9 Try.underlying93 Try.underlying5 ⟨#[92, 91]⟩ W
            have hnw : ∀ (q : Nat) (u : Value), ([.string ⟨#[91]⟩] : List Value)[q]? = some u → ((wr.alloc (.cells #[.int .u8 91] 5)).alloc (.cells #[.string ⟨#[91]⟩] 9)).cell? ((⟨wr.heap.size + 1, 0, none⟩ : Addr).add q) = some u := by
              intro q u hu
              have : q = 0 := by
                have := (List.getElem?_eq_some_iff.1 hu).1
                simpa using this
              subst this
              have := cell_of_row _ _ 0 _ _ _ (heap_alloc_new (wr.alloc (.cells #[.int .u8 91] 5)) (.cells #[.string ⟨#[91]⟩] 9))
              rw [World.size_alloc] at this
              exact this.trans hu
            have heq : (binOp .eql 93 (.slice none 0 0) (.slice none 0 0)).run Try.prog wr = .ok (.bool true) wr := Lib.run_eql_slice_nil wr 93 5 none 0 0 0 0 Try.underlying93
            have hby : ∀ hh : 0 < (⟨#[91]⟩ : ByteArray).size, ((⟨#[91]⟩ : ByteArray)[0]'hh).toNat = 91 := fun _ => rfl
            have hb0 : Below wr.heap.size wr ((wr.alloc (.cells #[.int .u8 91] 5)).alloc (.cells #[.string ⟨#[91]⟩] 9)) := ((Below.refl _ wr).alloc (Nat.le_refl _) _).alloc (by simp) _
            go_wp2_with (at_builtin; refine wpList_append_lies _ rfl (.tmp 119) (.tmp 123) 60 rfl w.heap.size 9 i9 _ 1 16 Try.underlying60 hi9 hz9 hs9 hb9 rfl (by omega) v 1 [.string ⟨#[92]⟩] rfl ((HB.out.own.alloc _).alloc _) ⟨wr.heap.size + 1, 0, none⟩ 1 1 [.string ⟨#[91]⟩] rfl rfl hnw (by simp [Value.oneCell']) (by omega) (by unfold maxLen; omega) (by omega) (by have := bel.size; simp; omega) _ rfl ?_; intro g1 cap1 w2 hown2 hgr2 hat2 hlt2; obtain ⟨m1, m2, m3, m4⟩ := HB.out.mid hb0 hgr2 (.slice (some ⟨g1, 0, none⟩) 2 cap1) 91 (by omega) (HB.out.non 91 (by omega) (by decide)); have m5 := m1 256; have m6 : C < w2.heap.size := (Array.getElem?_eq_some_iff.1 (HB.out.keepC hb0 hgr2)).1; clear m1; have FIN := Lib.hid (fun cap => HB.out.step (by omega) 91 rfl hb0 hgr2 hown2 ⟨#[92, 91]⟩ rfl cap); clear hown2 hgr2 hat2)
            go_roundg gk
            case measure => omega
            case rel =>
              obtain ⟨cs', hcs'⟩ := FIN.out _
              exact ⟨2, cs', _, by omega, rfl, ⟨hcs'⟩⟩
          · have bel := HB.out.bel
            have k0 : wr.cell? ⟨g, 2, none⟩ = some (.string ⟨#[63]⟩) := (bel.cell (World.block_lt_of_cell? w _ (HO.out.at_ 2 _ rfl))).trans (HO.out.at_ 2 _ rfl)
            have k1 : wr.cell? ⟨g, 3, none⟩ = some (.string ⟨#[92, 63]⟩) := (bel.cell (World.block_lt_of_cell? w _ (HO.out.at_ 3 _ rfl))).trans (HO.out.at_ 3 _ rfl)
            have kc : wr.cell? ⟨C, 63, none⟩ = some (.slice none 0 0) := (cell_of_row _ _ _ _ _ _ HB.out.blk).trans (HB.out.non 63 (by omega) (by decide))
            have kv : wr.cell? ⟨C, 256, none⟩ = some v := (cell_of_row _ _ _ _ _ _ HB.out.blk).trans HB.out.v256
            have kf : ∀ i, wr.frozen? ⟨C, i, none⟩ = false := fun i => frozen_of_row _ _ i _ _ HB.out.blk
            have hlt := HB.out.lt
            have hcv : (convert 93 9 (.slice (some ⟨wr.heap.size, 0, none⟩) 1 1)).run Try.prog (wr.alloc (.cells #[.int .u8 63] 5)) = .ok (.string ⟨#[63]⟩) (wr.alloc (.cells #[.int .u8 63] 5)) :=
              run_convert_bytes_arg _ 93 5 Try.underlying93 Try.underlying5 wr.heap.size 0 1 1 [63] rfl (fun i hi => by
                obtain rfl : i = 0 := by omega
                exact cell_of_row _ _ _ _ _ _ (heap_alloc_new wr _)) 9 Try.underlying9
            have hpb := fun W => print_bytes (P := Try.prog) 9 93 5 Try.underlying9 Try.underlying93 Try.underlying5 ⟨#[92, 63]⟩ W
            have hnw : ∀ (q : Nat) (u : Value), ([.string ⟨#[63]⟩] : List Value)[q]? = some u → ((wr.alloc (.cells #[.int .u8 63] 5)).alloc (.cells #[.string ⟨#[63]⟩] 9)).cell? ((⟨wr.heap.size + 1, 0, none⟩ : Addr).add q) = some u := by
              intro q u hu
              have : q = 0 := by
                have := (List.getElem?_eq_some_iff.1 hu).1
                simpa using this
              subst this
              have := cell_of_row _ _ 0 _ _ _ (heap_alloc_new (wr.alloc (.cells #[.int .u8 63] 5)) (.cells #[.string ⟨#[63]⟩] 9))
              rw [World.size_alloc] at this
              exact this.trans hu
            have heq : (binOp .eql 93 (.slice none 0 0) (.slice none 0 0)).run Try.prog wr = .ok (.bool true) wr := Lib.run_eql_slice_nil wr 93 5 none 0 0 0 0 Try.underlying93
            have hby : ∀ hh : 0 < (⟨#[63]⟩ : ByteArray).size, ((⟨#[63]⟩ : ByteArray)[0]'hh).toNat = 63 := fun _ => rfl
            have hb0 : Below wr.heap.size wr ((wr.alloc (.cells #[.int .u8 63] 5)).alloc (.cells #[.string ⟨#[63]⟩] 9)) := ((Below.refl _ wr).alloc (Nat.le_refl _) _).alloc (by simp) _
            go_wp2_with (at_builtin; refine wpList_append_lies _ rfl (.tmp 119) (.tmp 123) 60 rfl w.heap.size 9 i9 _ 1 16 Try.underlying60 hi9 hz9 hs9 hb9 rfl (by omega) v 2 [.string ⟨#[92]⟩, .string ⟨#[91]⟩] rfl ((HB.out.own.alloc _).alloc _) ⟨wr.heap.size + 1, 0, none⟩ 1 1 [.string ⟨#[63]⟩] rfl rfl hnw (by simp [Value.oneCell']) (by omega) (by unfold maxLen; omega) (by omega) (by have := bel.size; simp; omega) _ rfl ?_; intro g1 cap1 w2 hown2 hgr2 hat2 hlt2; obtain ⟨m1, m2, m3, m4⟩ := HB.out.mid hb0 hgr2 (.slice (some ⟨g1, 0, none⟩) 3 cap1) 63 (by omega) (HB.out.non 63 (by omega) (by decide)); have m5 := m1 256; have m6 : C < w2.heap.size := (Array.getElem?_eq_some_iff.1 (HB.out.keepC hb0 hgr2)).1; clear m1; have FIN := Lib.hid (fun cap => HB.out.step (by omega) 63 rfl hb0 hgr2 hown2 ⟨#[92, 63]⟩ rfl cap); clear hown2 hgr2 hat2)
            go_roundg gk
            case measure => omega
            case rel =>
              obtain ⟨cs', hcs'⟩ := FIN.out _
              exact ⟨3, cs', _, by omega, rfl, ⟨hcs'⟩⟩
          · have bel := HB.out.bel
            have k0 : wr.cell? ⟨g, 0, none⟩ = some (.string ⟨#[42]⟩) := (bel.cell (World.block_lt_of_cell? w _ (HO.out.at_ 0 _ rfl))).trans (HO.out.at_ 0 _ rfl)
            have k1 : wr.cell? ⟨g, 1, none⟩ = some (.string ⟨#[92, 42]⟩) := (bel.cell (World.block_lt_of_cell? w _ (HO.out.at_ 1 _ rfl))).trans (HO.out.at_ 1 _ rfl)
            have kc : wr.cell? ⟨C, 42, none⟩ = some (.slice none 0 0) := (cell_of_row _ _ _ _ _ _ HB.out.blk).trans (HB.out.non 42 (by omega) (by decide))
            have kv : wr.cell? ⟨C, 256, none⟩ = some v := (cell_of_row _ _ _ _ _ _ HB.out.blk).trans HB.out.v256
            have kf : ∀ i, wr.frozen? ⟨C, i, none⟩ = false := fun i => frozen_of_row _ _ i _ _ HB.out.blk
            have hlt := HB.out.lt
            have hcv : (convert 93 9 (.slice (some ⟨wr.heap.size, 0, none⟩) 1 1)).run Try.prog (wr.alloc (.cells #[.int .u8 42] 5)) = .ok (.string ⟨#[42]⟩) (wr.alloc (.cells #[.int .u8 42] 5)) :=
              run_convert_bytes_arg _ 93 5 Try.underlying93 Try.underlying5 wr.heap.size 0 1 1 [42] rfl (fun i hi => by
                obtain rfl : i = 0 := by omega
                exact cell_of_row _ _ _ _ _ _ (heap_alloc_new wr _)) 9 Try.underlying9
            have hpb := fun W => print_bytes (P := Try.prog) 9 93 5 Try.underlying9 Try.underlying93 Try.underlying5 ⟨#[92, 42]⟩ W
            have hnw : ∀ (q : Nat) (u : Value), ([.string ⟨#[42]⟩] : List Value)[q]? = some u → ((wr.alloc (.cells #[.int .u8 42] 5)).alloc (.cells #[.string ⟨#[42]⟩] 9)).cell? ((⟨wr.heap.size + 1, 0, none⟩ : Addr).add q) = some u := by
              intro q u hu
              have : q = 0 := by
                have := (List.getElem?_eq_some_iff.1 hu).1
                simpa using this
              subst this
              have := cell_of_row _ _ 0 _ _ _ (heap_alloc_new (wr.alloc (.cells #[.int .u8 42] 5)) (.cells #[.string ⟨#[42]⟩] 9))
              rw [World.size_alloc] at this
              exact this.trans hu
            have heq : (binOp .eql 93 (.slice none 0 0) (.slice none 0 0)).run Try.prog wr = .ok (.bool true) wr := Lib.run_eql_slice_nil wr 93 5 none 0 0 0 0 Try.underlying93
            have hby : ∀ hh : 0 < (⟨#[42]⟩ : ByteArray).size, ((⟨#[42]⟩ : ByteArray)[0]'hh).toNat = 42 := fun _ => rfl
            have hb0 : Below wr.heap.size wr ((wr.alloc (.cells #[.int .u8 42] 5)).alloc (.cells #[.string ⟨#[42]⟩] 9)) := ((Below.refl _ wr).alloc (Nat.le_refl _) _).alloc (by simp) _
            go_wp2_with (at_builtin; refine wpList_append_lies _ rfl (.tmp 119) (.tmp 123) 60 rfl w.heap.size 9 i9 _ 1 16 Try.underlying60 hi9 hz9 hs9 hb9 rfl (by omega) v 3 [.string ⟨#[92]⟩, .string ⟨#[91]⟩, .string ⟨#[63]⟩] rfl ((HB.out.own.alloc _).alloc _) ⟨wr.heap.size + 1, 0, none⟩ 1 1 [.string ⟨#[42]⟩] rfl rfl hnw (by simp [Value.oneCell']) (by omega) (by unfold maxLen; omega) (by omega) (by have := bel.size; simp; omega) _ rfl ?_; intro g1 cap1 w2 hown2 hgr2 hat2 hlt2; obtain ⟨m1, m2, m3, m4⟩ := HB.out.mid hb0 hgr2 (.slice (some ⟨g1, 0, none⟩) 4 cap1) 42 (by omega) (HB.out.non 42 (by omega) (by decide)); have m5 := m1 256; have m6 : C < w2.heap.size := (Array.getElem?_eq_some_iff.1 (HB.out.keepC hb0 hgr2)).1; clear m1; have FIN := Lib.hid (fun cap => HB.out.step (by omega) 42 rfl hb0 hgr2 hown2 ⟨#[92, 42]⟩ rfl cap); clear hown2 hgr2 hat2)
            go_roundg gk
            case measure => omega
            case rel =>
              obtain ⟨cs', hcs'⟩ := FIN.out _
              exact ⟨4, cs', _, by omega, rfl, ⟨hcs'⟩⟩
end Go.Proofs.Ytkgldphpkglcmaa.Rp
