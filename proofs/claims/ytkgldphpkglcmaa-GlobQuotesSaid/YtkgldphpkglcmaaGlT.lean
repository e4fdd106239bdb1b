/- the reference's has. -/
import Derived.Test.YtkgldphpkglcmaaGlS
namespace Go.Proofs.Ytkgldphpkglcmaa.Gl
open Go.RowKit Go.Proofs.YtkgldphpkglcmaaW.PrintWords Go.Proofs.YtkgldphpkglcmaaW.PrintLast Go.Proofs.YtkgldphpkglcmaaW.PrintMore
set_option linter.unusedSimpArgs false
set_option linter.unusedVariables false
def inR (ps : List (UInt8 × UInt8)) (c : UInt8) : Bool := ps.any fun p => decide (p.1.toNat ≤ c.toNat) && decide (c.toNat ≤ p.2.toNat)
def hasR (ps : List (UInt8 × UInt8)) (not : Bool) (c : UInt8) (pl : Bool) : Bool := (inR ps c != not) && (c != 47 || pl)
theorem rowB_at : ∀ (ps : List (UInt8 × UInt8)) (i : Nat) (p : UInt8 × UInt8), ps[i]? = some p → (rowB ps)[i * 2]? = some (.int .u8 (p.1.toNat : Int)) ∧ (rowB ps)[i * 2 + 1]? = some (.int .u8 (p.2.toNat : Int))
  | [], i, p, h => by simp at h
  | a :: ps, 0, p, h => by simp at h; subst h; exact ⟨rfl, rfl⟩
  | a :: ps, i + 1, p, h => by
    have h1 : ps[i]? = some p := by simpa using h
    have e : rowB (a :: ps) = bcs a ++ rowB ps := by simp [rowB]
    have hl : (bcs a).length = 2 := rfl
    obtain ⟨r1, r2⟩ := rowB_at ps i p h1
    rw [e]
    constructor
    · rw [List.getElem?_append_right (by omega), hl, show (i + 1) * 2 - 2 = i * 2 from by omega]; exact r1
    · rw [List.getElem?_append_right (by omega), hl, show (i + 1) * 2 + 1 - 2 = i * 2 + 1 from by omega]; exact r2
theorem inR_snoc (ps : List (UInt8 × UInt8)) (i : Nat) (p : UInt8 × UInt8) (h : ps[i]? = some p) (c : UInt8) : inR (ps.take (i + 1)) c = (inR (ps.take i) c || (decide (p.1.toNat ≤ c.toNat) && decide (c.toNat ≤ p.2.toNat))) := by
  rw [List.take_add_one, h]
  simp [inR, List.any_append]
set_option maxRecDepth 100000 in
set_option maxHeartbeats 3200000 in
theorem has_ref (k : Int) (v : Value) (B : Nat) (ps : List (UInt8 × UInt8)) (nb : Bool) (c : UInt8) (pl : Bool) (w : World) (h : w.ownsRow B 57 2 v ps.length (rowB ps)) (hl : ps.length ≤ 1000) :
    Calls Try.prog 17 #[.agg #[.int .i64 k, v, .bool nb], .int .u8 (c.toNat : Int), .bool pl] w fun e w' => e = .returned (.bool (hasR ps nb c pl)) ∧ Below w.heap.size w w' := by
  obtain ⟨A, cap, rfl⟩ := own_slice h
  have hX := heap_alloc_new w (.cells #[.int .i64 k, .slice A ps.length cap, .bool nb] 40)
  have hb0 : Below w.heap.size w (w.alloc (.cells #[.int .i64 k, .slice A ps.length cap, .bool nb] 40)) := (Below.refl _ _).alloc (Nat.le_refl _) _
  have h1 := pw_own_below h hb0
  have hrow : ∀ (i : Nat) (p : UInt8 × UInt8), ps[i]? = some p → ∃ g, A = some ⟨g, 0, none⟩ ∧ (w.alloc (.cells #[.int .i64 k, .slice A ps.length cap, .bool nb] 40)).cell? ⟨g, i * 2, none⟩ = some (.int .u8 (p.1.toNat : Int)) ∧ (w.alloc (.cells #[.int .i64 k, .slice A ps.length cap, .bool nb] 40)).cell? ⟨g, i * 2 + 1, none⟩ = some (.int .u8 (p.2.toNat : Int)) := fun i y hy => by
    have hi := (List.getElem?_eq_some_iff.1 hy).1
    obtain ⟨g, cap2, e, _, _⟩ := h.form (by omega)
    injection e with e1 e2 e3
    have hc1 := h1.cells (g := g) (by rw [e1]; rfl) (i * 2) _ (rowB_at ps i y hy).1
    have hc2 := h1.cells (g := g) (by rw [e1]; rfl) (i * 2 + 1) _ (rowB_at ps i y hy).2
    rw [add_plain] at hc1 hc2
    exact ⟨g, e1, hc1, hc2⟩
  have hc1 := cell_of_row _ _ 1 _ 40 (0, 0) hX
  have hc2 := cell_of_row _ _ 2 _ 40 (0, 0) hX
  have HH := Lib.hid (And.intro hrow (And.intro hb0 (And.intro hc1 hc2)))
  clear hrow hb0 hc1 hc2 hX h1 h
  go_enter Try.func17, Try.ntmps17
  go_wp2_with fail
  obtain ⟨hrow, hb0, hc1, hc2⟩ := HH.out
  clear HH
  have hc1 : (w.alloc (.cells #[.int .i64 k, .slice A ps.length cap, .bool nb] 40)).cell? ⟨w.heap.size, 1, none⟩ = some (.slice A ps.length cap) := hc1
  have hc2 : (w.alloc (.cells #[.int .i64 k, .slice A ps.length cap, .bool nb] 40)).cell? ⟨w.heap.size, 2, none⟩ = some (.bool nb) := hc2
  generalize w.alloc (.cells #[.int .i64 k, .slice A ps.length cap, .bool nb] 40) = W1 at *
  have HB := Lib.hid hb0
  have HROW := Lib.hid hrow
  clear hb0 hrow
  go_loopg [8, 7] ps.length (fun gk v8 v7 wr => ∃ i : Nat, i + gk = ps.length ∧ v8 = .int .i64 (i : Int) ∧ v7 = .bool (inR (ps.take i) c) ∧ W1 = wr)
  case atStart => exact ⟨0, by omega, rfl, rfl, rfl⟩
  case round =>
    obtain ⟨i, hi, rfl, rfl, rfl⟩ := hrel
    obtain ⟨sn, hsn⟩ : ∃ sn, inR (ps.take i) c = sn := ⟨_, rfl⟩
    rw [hsn]
    have HSN := Lib.hid hsn
    clear hsn
    cases gk with
    | zero =>
      obtain rfl : i = ps.length := by omega
      have e47 : ((c.toNat : Int) != 47) = (c != 47) := congrArg not (u8_eq c 47 (by omega))
      have e9 : hasR ps nb c pl = ((sn != nb) && (c != 47 || pl)) := by unfold hasR; rw [← HSN.out, List.take_of_length_le (by simp)]
      have E9 := Lib.hid e9
      clear e9
      generalize (c != 47) = c47 at *
      cases sn <;> cases nb <;> cases c47 <;> (go_wp2; go_ret; exact ⟨by rw [E9.out]; rfl, HB.out⟩)
    | succ j =>
      have hi2 : i < ps.length := by omega
      obtain ⟨p, hy⟩ : ∃ p, ps[i]? = some p := ⟨ps[i], List.getElem?_eq_getElem hi2⟩
      obtain ⟨g, rfl, hcl, hch⟩ := HROW.out i p hy
      have e5 := inR_snoc ps i p hy c
      rw [HSN.out] at e5
      have E5 := Lib.hid e5
      clear e5 hy
      cases sn with
      | true =>
        go_wp2
        go_roundg j
        case measure => omega
        case rel => exact ⟨i + 1, by omega, by go_num, by rw [E5.out]; rfl, rfl⟩
      | false =>
        have e7 : inR (ps.take (i + 1)) c = (decide (p.1.toNat ≤ c.toNat) && decide (c.toNat ≤ p.2.toNat)) := by rw [E5.out]; rfl
        have E7 := Lib.hid e7
        clear e7 E5
        by_cases h1 : p.1.toNat ≤ c.toNat
        · have hd : decide (p.1.toNat ≤ c.toNat) = true := decide_eq_true h1
          have e8 : inR (ps.take (i + 1)) c = decide (c.toNat ≤ p.2.toNat) := by rw [E7.out, hd]; rfl
          have E8 := Lib.hid e8
          clear e8 E7 h1
          go_wp2
          go_roundg j
          case measure => omega
          case rel => exact ⟨i + 1, by omega, by go_num, by rw [E8.out], rfl⟩
        · have hd : decide (p.1.toNat ≤ c.toNat) = false := decide_eq_false h1
          have e8 : inR (ps.take (i + 1)) c = false := by rw [E7.out, hd]; rfl
          have E8 := Lib.hid e8
          clear e8 E7 h1
          go_wp2
          go_roundg j
          case measure => omega
          case rel => exact ⟨i + 1, by omega, by go_num, by rw [E8.out], rfl⟩
end Go.Proofs.Ytkgldphpkglcmaa.Gl
