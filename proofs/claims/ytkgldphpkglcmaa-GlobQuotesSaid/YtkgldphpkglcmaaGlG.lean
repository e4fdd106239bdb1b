/- glob's skip: what may be nothing. -/
import Derived.Test.YtkgldphpkglcmaaGlF
namespace Go.Proofs.Ytkgldphpkglcmaa.Gl
open Go.RowKit Go.Proofs.YtkgldphpkglcmaaW.PrintWords Go.Proofs.YtkgldphpkglcmaaW.PrintLast Go.Proofs.YtkgldphpkglcmaaW.PrintMore
set_option linter.unusedSimpArgs false
set_option linter.unusedVariables false
theorem info4 : (Try.prog.info? 4).map (fun i => (i.zero, i.size, i.bytes)) = some (some (.bool false), 1, 1) := by kernel_rfl
/-- a row of bools in a block of its own. -/
def Bb (w : World) (m : Nat) (M : List Bool) : Prop := w.heap[m]? = some (.cells (M.map Value.bool).toArray 4 (0, 0))
theorem Bb.cell {w : World} {m : Nat} {M : List Bool} (h : Bb w m M) (i : Nat) (hi : i < M.length) : w.cell? ⟨m, i, none⟩ = some (.bool (M.getD i false)) := by
  rw [cell_of_row w m i _ 4 (0, 0) h]
  simp only [List.getElem?_toArray, List.getElem?_map]
  rw [List.getD_eq_getElem?_getD, List.getElem?_eq_getElem hi]
  rfl
theorem Bb.fr {w : World} {m : Nat} {M : List Bool} (h : Bb w m M) (i : Nat) : w.frozen? ⟨m, i, none⟩ = false := frozen_of_row w m i _ 4 h
theorem Bb.lt {w : World} {m : Nat} {M : List Bool} (h : Bb w m M) : m < w.heap.size := (Array.getElem?_eq_some_iff.1 h).1
theorem Bb.set {w : World} {m : Nat} {M : List Bool} (h : Bb w m M) (i : Nat) (c : Bool) : Bb (w.setCell ⟨m, i, none⟩ (.bool c)) m (M.set i c) := by
  have := heap_setCell_same w m i _ 4 (.bool c) h
  unfold Bb
  rw [this]
  simp [List.map_set]
def skipTo (ps : List Pc) (M : List Bool) : Nat → List Bool
  | 0 => M
  | k + 1 => if (skipTo ps M k).getD k false && (ps.getD k (0, [])).1 != 0 then (skipTo ps M k).set (k + 1) true else skipTo ps M k
theorem skipTo_len (ps : List Pc) (M : List Bool) (k : Nat) : (skipTo ps M k).length = M.length := by
  induction k with
  | zero => rfl
  | succ k ih => simp only [skipTo]; split <;> simp [ih]
/-- the pieces lie in a row of the call's own. -/
structure Lp (w : World) (bl : Nat) (ps : List Pc) : Prop where
  at_ : ∀ k x, ps[k]? = some x → w.rangeAt bl (k * 257) (pcs x)
  len : ∀ x ∈ ps, x.2.length = 256
theorem setCells_block (H : Nat) (t : TypeId) : ∀ (vs : List Value) (o : Nat) (c : Array Value) (w : World), w.heap[H]? = some (.cells c t (0, 0)) → o + vs.length = c.size →
    (w.setCells H o vs).heap[H]? = some (.cells (c.toList.take o ++ vs).toArray t (0, 0)) ∧ w.grownBy (w.setCells H o vs) (some H)
  | [], o, c, w, h, hs => by
    refine ⟨?_, World.grownBy.refl w _⟩
    have e : (c.toList.take o ++ []).toArray = c := by
      rw [List.append_nil, List.take_of_length_le (by simp at hs ⊢; omega)]
    rw [e]
    exact h
  | v :: vs, o, c, w, h, hs => by
    have h1 := heap_setCell_same w H o c t v h
    have h2 := setCells_block H t vs (o + 1) (c.setIfInBounds o v) (w.setCell ⟨H, o, none⟩ v) h1 (by simp at hs ⊢; omega)
    have e : ((c.setIfInBounds o v).toList.take (o + 1) ++ vs).toArray = (c.toList.take o ++ v :: vs).toArray := by
      congr 1
      have ho : o < c.toList.length := by simp at hs ⊢; omega
      rw [Array.toList_setIfInBounds, List.take_succ_eq_append_getElem (by simpa using ho), List.getElem_set_self, List.take_set_of_le (Nat.le_refl _)]
      simp
    rw [e] at h2
    exact ⟨h2.1, (only_set w H o v).trans h2.2⟩
theorem boxed (wr : World) (x : Pc) (hx : x.2.length = 256) :
    Pb ((wr.alloc (.cells Try.zeroCells53 53)).setCells wr.heap.size 0 (pcs x)) wr.heap.size x ∧ wr.grownBy ((wr.alloc (.cells Try.zeroCells53 53)).setCells wr.heap.size 0 (pcs x)) none := by
  have h := setCells_block wr.heap.size 53 (pcs x) 0 Try.zeroCells53 (wr.alloc (.cells Try.zeroCells53 53)) (heap_alloc_new wr _) (by
    rw [Nat.zero_add, pcs_len x hx, zero65, List.size_toArray]; exact (pcs_len _ zs_len).symm)
  refine ⟨by unfold Pb; simpa using h.1, ?_⟩
  have h2 := World.grownBy.trans (World.grownBy_alloc wr (.cells Try.zeroCells53 53) (some wr.heap.size)) h.2
  exact ⟨h2.os, h2.tape, h2.output, h2.size, fun k hk _ => h2.block k hk (fun e => by injection e with e; omega)⟩
theorem pcs_size (x : Pc) (h : x.2.length = 256) : (pcs x).toArray.size = 257 := by rw [List.size_toArray]; exact pcs_len x h
theorem there_new (wr : World) : (wr.alloc (.cells Try.zeroCells53 53)).there wr.heap.size 0 257 := by
  have hP : Pb (wr.alloc (.cells Try.zeroCells53 53)) wr.heap.size (0, zs) := by rw [zero65]; exact heap_alloc_new wr _
  intro j hj
  refine ⟨?_, hP.fr _⟩
  rw [cell_of_row _ _ _ _ 53 (0, 0) hP, Nat.zero_add]
  rw [Array.getElem?_eq_getElem (by rw [List.size_toArray, pcs_len _ zs_len]; exact hj)]
  rfl
set_option maxRecDepth 100000 in
set_option maxHeartbeats 1600000 in
theorem skip_any (w : World) (bl cap m : Nat) (ps : List Pc) (M : List Bool) (hp : 0 < ps.length) (hps : ps.length ≤ 1000) (hM : M.length = ps.length + 1) (hl : Lp w bl ps) (hb : Bb w m M) (hne : bl ≠ m) (hbl : bl < w.heap.size) :
    Calls Try.prog 25 #[.slice (some ⟨bl, 0, none⟩) ps.length cap, .slice (some ⟨m, 0, none⟩) (ps.length + 1) (ps.length + 1)] w fun e w' => e = .returned (.tuple #[]) ∧ Bb w' m (skipTo ps M ps.length) ∧ w.grownBy w' (some m) := by
  go_enter Try.func25, Try.ntmps25
  go_wp2_with fail
  go_loopg [5, 8] ps.length (fun gk v5 v8 wr => ∃ k : Nat, k + gk = ps.length ∧ v8 = .int .i64 (k : Int) ∧ Bb wr m (skipTo ps M k) ∧ w.grownBy wr (some m))
  case atStart => exact ⟨0, by omega, rfl, hb, World.grownBy.refl w _⟩
  case round =>
    clear hb
    obtain ⟨k, hk, rfl, hb, hg⟩ := hrel
    cases gk with
    | zero =>
      obtain rfl : k = ps.length := by omega
      go_wp2
      go_end0
      exact ⟨rfl, hb, hg⟩
    | succ gk =>
      have hk2 : k < ps.length := by omega
      obtain ⟨x, hx⟩ : ∃ x, ps[k]? = some x := ⟨ps[k], List.getElem?_eq_getElem hk2⟩
      have hmem : x ∈ ps := List.mem_of_getElem? hx
      have hxl := hl.len x hmem
      have hr : wr.rangeAt bl (k * 257) (pcs x) := fun j u hu => (World.cell?_of_block (hg.block bl hbl (fun e => hne (by injection e)))).trans (hl.at_ k x hx j u hu)
      have HX := Lib.hid hx
      have HXL := Lib.hid hxl
      clear hx hxl
      go_upto_region 2 with (fail)
      go_cut [4, 5] (fun v4 v5 wc => v4 = .int .i64 (k : Int) ∧ ∃ H, v5 = .pointer (some ⟨H, 0, none⟩) ∧ Pb wc H x ∧ Bb wc m (skipTo ps M k) ∧ w.grownBy wc (some m))
      case first =>
        have HTH := Lib.hid (show (wr.alloc (.cells Try.zeroCells53 53)).there wr.heap.size 0 (pcs x).toArray.size from by rw [pcs_size x HXL.out]; exact there_new wr)
        have HSZ := Lib.hid (show (Try.prog.info? 53).map (·.size) = some (pcs x).toArray.size from by rw [pcs_size x HXL.out]; exact size65)
        have HON := Lib.hid (all_oneCell_toArray (pcs_one x))
        go_wp2_with (first | ((with_reducible refine gate_dst (N := 12) rfl ?_); refine wpList_load_mid rfl 53 (.tmp 11) rfl bl (k * 257) rfl (pcs x) _ hr Try.underlying53 rfl (by rw [pcs_len x HXL.out]; exact size65) ?_) | ((with_reducible refine gate_store (t := 53) (p := 5) (v := .tmp 12) rfl ?_); refine wpList_store_mid rfl 53 (.tmp 5) (.tmp 12) rfl wr.heap.size 0 (pcs x).toArray rfl rfl HTH.out HSZ.out HON.out ?_))
        go_meet
        case rel =>
          obtain ⟨b1, b2⟩ := boxed wr x HXL.out
          exact ⟨rfl, _, rfl, b1, (b2.block m hb.lt (by simp)).trans hb, hg.trans ⟨b2.os, b2.tape, b2.output, b2.size, fun k hk _ => b2.block k hk (by simp)⟩⟩
      case rest =>
        clear hb hg hr
        obtain ⟨rfl, H, rfl, hP, hb, hg⟩ := hcut
        have hMl : (skipTo ps M k).length = ps.length + 1 := by rw [skipTo_len]; exact hM
        have hc := hb.cell k (by omega)
        have hc1 := hb.cell (k + 1) (by omega)
        have hf1 := hb.fr (k + 1)
        have hck : wc.cell? ⟨H, 0, none⟩ = some (.int .i64 x.1) := hP.kind
        have hb2 := hb.set (k + 1) true
        have hg2 := hg.trans (only_set wc m (k + 1) (.bool true))
        have hget : (ps.getD k (0, [])).1 = x.1 := by rw [List.getD_eq_getElem?_getD, HX.out]; rfl
        have HB2 := Lib.hid hb2
        have HG2 := Lib.hid hg2
        have HGET := Lib.hid hget
        have HML := Lib.hid hMl
        clear hb2 hg2 hget hMl
        cases hq : (skipTo ps M k).getD k false with
        | false =>
          rw [hq] at hc
          have es : skipTo ps M (k + 1) = skipTo ps M k := by simp only [skipTo]; rw [hq]; rfl
          have ES := Lib.hid es
          clear es hq
          go_wp2
          go_roundg gk
          case measure => omega
          case rel => exact ⟨k + 1, by omega, by go_num, by rw [ES.out]; exact hb, hg⟩
        | true =>
          rw [hq] at hc
          cases hz : (x.1 != 0) with
          | false =>
            have es : skipTo ps M (k + 1) = skipTo ps M k := by simp only [skipTo]; rw [hq, HGET.out, hz]; rfl
            have ES := Lib.hid es
            clear es hq
            go_wp2
            go_roundg gk
            case measure => omega
            case rel => exact ⟨k + 1, by omega, by go_num, by rw [ES.out]; exact hb, hg⟩
          | true =>
            have es : skipTo ps M (k + 1) = (skipTo ps M k).set (k + 1) true := by simp only [skipTo]; rw [hq, HGET.out, hz]; rfl
            have ES := Lib.hid es
            clear es hq
            go_wp2
            go_roundg gk
            case measure => omega
            case rel => exact ⟨k + 1, by omega, by go_num, by rw [ES.out]; exact HB2.out, HG2.out⟩
end Go.Proofs.Ytkgldphpkglcmaa.Gl
