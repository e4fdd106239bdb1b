/- (*strings.Replacer).buildOnce; what it leaves. -/
import Derived.Test.YtkgldphpkglcmaaRpC
namespace Go.Proofs.Ytkgldphpkglcmaa.Rp
open Go.RowKit Go.MuLone Go.Proofs.YtkgldphpkglcmaaW.PrintWords Go.Proofs.YtkgldphpkglcmaaW.PrintLast Go.Proofs.YtkgldphpkglcmaaW.PrintMore
set_option linter.unusedVariables false
/-- the byteStringReplacer's block, whole. -/
structure Rp1 (base : Nat) (W : World) (c : Nat) (cs : Array Value) (v : Value) : Prop where
  blk : W.heap[c]? = some (.cells cs 96 (0, 0))
  sz : cs.size = 257
  non : ∀ i, i < 256 → (∀ x ∈ os4.take 4, i ≠ x.toNat) → cs[i]? = some (.slice none 0 0)
  som : ∀ x ∈ os4.take 4, ∃ g cap bs fr, cs[x.toNat]? = some (.slice (some ⟨g, 0, none⟩) 2 cap) ∧ W.heap[g]? = some (.cells bs 5 fr) ∧ bs[0]? = some (.int .u8 92) ∧ bs[1]? = some (.int .u8 (x.toNat : Int))
  v256 : cs[256]? = some v
  own : W.ownsRow base 9 1 v 4 ((os4.take 4).map fun x => Value.string ⟨#[x]⟩)
theorem BB.rp {w W : World} {c : Nat} {cs : Array Value} {v : Value} (h : BB w W c 4 cs v) : Rp1 w.heap.size W c cs v := ⟨h.blk, h.sz, h.non, h.som, h.v256, h.own⟩
theorem Rp1.keep {base : Nat} {W W' : World} {c : Nat} {cs : Array Value} {v : Value} (h : Rp1 base W c cs v) (hk : ∀ (k : Nat) (bs : Array Value) (t : TypeId) (fr : Nat × Nat), W.heap[k]? = some (.cells bs t fr) → t ≠ 76 → W'.heap[k]? = W.heap[k]?) : Rp1 base W' c cs v := by
  refine ⟨(hk c cs _ _ h.blk (by decide)).trans h.blk, h.sz, h.non, fun x hx => ?_, h.v256, own_move h.own (fun k hv => ?_)⟩
  · obtain ⟨g, cap, bs, fr, e1, e2, e3, e4⟩ := h.som x hx
    exact ⟨g, cap, bs, fr, e1, (hk g bs _ _ e2 (by decide)).trans e2, e3, e4⟩
  · obtain ⟨cells, hx⟩ := own_typed h.own k hv
    exact hk k cells _ _ hx (by decide)
theorem Rp1.set {base : Nat} {W : World} {c : Nat} {cs : Array Value} {v : Value} (h : Rp1 base W c cs v) {b : Nat} {bs : Array Value} {fr : Nat × Nat} (hb : W.heap[b]? = some (.cells bs 76 fr)) (i : Nat) (u : Value) : Rp1 base (W.setCell ⟨b, i, none⟩ u) c cs v :=
  h.keep fun k ks t fr' hk ht => Below.heap_setCell W ⟨b, i, none⟩ u k (by
    intro e
    have e' : k = b := e
    subst e'
    have h2 := hb.symm.trans hk
    injection h2 with h2
    injection h2 with _ h2
    exact ht h2.symm)
theorem Rp1.drew {base : Nat} {W : World} {c : Nat} {cs : Array Value} {v : Value} (h : Rp1 base W c cs v) : Rp1 base W.drew c cs v := h.keep fun k _ _ _ _ _ => rfl
theorem Rp1.below {base : Nat} {W W' : World} {c : Nat} {cs : Array Value} {v : Value} (h : Rp1 base W c cs v) (hb : Below W.heap.size W W') : Rp1 base W' c cs v := h.keep fun k _ _ _ hk _ => hb.block k (Array.getElem?_eq_some_iff.1 hk).1
/-- a Replacer's block once it is built. -/
def Built (B b : Nat) (x : Array Value) (w w' : World) : Prop := ∃ c cs v, w'.heap[b]? = some (.cells #[x[0]!, x[1]!, x[2]!, .iface 97 (.pointer (some ⟨c, 0, none⟩)), .slice none 0 0] 76 (0, 0)) ∧ Rp1 w.heap.size w' c cs v ∧ w.heap.size ≤ c ∧ Below B w w'
set_option maxHeartbeats 1600000 in
theorem once_any (B b g cap : Nat) (x0 x1 x2 : Value) (w : World) (hBb : B ≤ b) (hB : B ≤ w.heap.size)
    (hblk : w.heap[b]? = some (.cells #[x0, x1, x2, .nilIface, .slice (some ⟨g, 0, none⟩) 8 cap] 76 (0, 0))) (hold : ∀ j x, ons[j]? = some x → w.cell? ⟨g, j, none⟩ = some (.string x)) :
    Calls Try.prog 28 #[.pointer (some ⟨b, 0, none⟩)] w fun e w' => e = .returned (.tuple #[]) ∧ Built B b #[x0, x1, x2] w w' := by
  have HC := Lib.hid (build_any b g cap w ⟨(cell_of_row w b 4 _ _ _ hblk).trans rfl, hold⟩)
  have HK := Lib.hid hblk
  clear hold hblk
  go_enter Try.func28, Try.ntmps28
  go_wp2_with fail
  refine HC.out.mono ?_
  rintro e w1 ⟨c, cs, v, rfl, hBB⟩
  have hlt : b < w.heap.size := (Array.getElem?_eq_some_iff.1 HK.out).1
  have hk1 : w1.heap[b]? = some (.cells #[x0, x1, x2, .nilIface, .slice (some ⟨g, 0, none⟩) 8 cap] 76 (0, 0)) := (hBB.bel.block b hlt).trans HK.out
  have c3 : w1.cell? ⟨b, 3, none⟩ = some .nilIface := (cell_of_row _ _ _ _ _ _ hk1).trans rfl
  have f3 : w1.frozen? ⟨b, 3, none⟩ = false := frozen_of_row _ _ _ _ _ hk1
  have hk2 := heap_setCell_same w1 b 3 _ 76 (.iface 97 (.pointer (some ⟨c, 0, none⟩))) hk1
  have c4 : (w1.setCell ⟨b, 3, none⟩ (.iface 97 (.pointer (some ⟨c, 0, none⟩)))).cell? ⟨b, 4, none⟩ = some (.slice (some ⟨g, 0, none⟩) 8 cap) := (cell_of_row _ _ _ _ _ _ hk2).trans rfl
  have f4 : (w1.setCell ⟨b, 3, none⟩ (.iface 97 (.pointer (some ⟨c, 0, none⟩)))).frozen? ⟨b, 4, none⟩ = false := frozen_of_row _ _ _ _ _ hk2
  have hk3 := heap_setCell_same _ b 4 _ 76 (.slice none 0 0) hk2
  have FIN : Built B b #[x0, x1, x2] w ((w1.setCell ⟨b, 3, none⟩ (.iface 97 (.pointer (some ⟨c, 0, none⟩)))).setCell ⟨b, 4, none⟩ (.slice none 0 0)) :=
    ⟨c, cs, v, hk3, (hBB.rp.set hk1 3 _).set hk2 4 _, hBB.hc, ((hBB.bel.mono hB).setCell (p := ⟨b, 3, none⟩) hBb _).setCell (p := ⟨b, 4, none⟩) hBb _⟩
  have Fin := Lib.hid FIN
  clear FIN hk1 hk2 hk3 hBB HC HK
  go_wp2
  go_end0
  exact ⟨rfl, Fin.out⟩
end Go.Proofs.Ytkgldphpkglcmaa.Rp
