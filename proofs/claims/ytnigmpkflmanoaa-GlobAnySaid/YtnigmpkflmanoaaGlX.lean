/- glob.Any; the law GlobAny, walked. -/
import Derived.Test.YtnigmpkflmanoaaGlW
namespace Go.Proofs.Ytnigmpkflmanoaa.Gl
open Go.RowKit Go.Proofs.YtnigmpkflmanoaaW.PrintWords Go.Proofs.YtnigmpkflmanoaaW.PrintLast Go.Proofs.YtnigmpkflmanoaaW.PrintMore
set_option linter.unusedSimpArgs false
set_option linter.unusedVariables false
def firstM (t : ByteArray) : List ByteArray → Nat → Int
  | [], _ => -1
  | x :: xs, k => if matB x t then (k : Int) else firstM t xs (k + 1)
def allR (xs : List ByteArray) : Bool := xs.all rightB
abbrev RS (w : World) (A : Option Addr) (xs : List ByteArray) : Prop := ReadsOf Value.string ByteArray.empty w A xs.length xs
theorem RS.at' {w : World} {A : Option Addr} {xs : List ByteArray} (h : RS w A xs) (i : Nat) (x : ByteArray) (hx : xs[i]? = some x) : ∃ ad, A = some ad ∧ w.cell? (ad.add i) = some (.string x) := by
  have hi := (List.getElem?_eq_some_iff.1 hx).1
  obtain ⟨ad, e, hc⟩ := ReadsOf.at_ h (i : Int) (by omega) (by omega)
  refine ⟨ad, e, ?_⟩
  have e2 : rdOf ByteArray.empty xs (i : Int) = x := by simp [rdOf, hx]
  rw [e2] at hc
  simpa using hc
theorem all_drop (xs : List ByteArray) (i : Nat) (x : ByteArray) (hx : xs[i]? = some x) : allR (xs.drop i) = (rightB x && allR (xs.drop (i + 1))) := by
  obtain ⟨hi, he⟩ := List.getElem?_eq_some_iff.1 hx
  rw [List.drop_eq_getElem_cons hi, he]
  rfl
theorem first_drop (t : ByteArray) (xs : List ByteArray) (i k : Nat) (x : ByteArray) (hx : xs[i]? = some x) : firstM t (xs.drop i) k = if matB x t then (k : Int) else firstM t (xs.drop (i + 1)) (k + 1) := by
  obtain ⟨hi, he⟩ := List.getElem?_eq_some_iff.1 hx
  rw [List.drop_eq_getElem_cons hi, he]
  rfl
set_option maxHeartbeats 3200000 in
theorem any_glob (A : Option Addr) (cap : Nat) (xs : List ByteArray) (t : ByteArray) (hx : ∀ x ∈ xs, x.size ≤ 1000 ∧ t.size ≤ 1000) (hn : xs.length ≤ 1000) (w : World) (h : RS w A xs) :
    Calls Try.prog 18 #[.slice A xs.length cap, .string t] w fun e w' => e = .returned (.tuple #[.int .i64 (if allR xs then firstM t xs 0 else -1), .int .u8 (if allR xs then 0 else 15)]) ∧ Below w.heap.size w w' := by
  obtain ⟨r, hr⟩ : ∃ r, allR xs = r := ⟨_, rfl⟩
  obtain ⟨f, hf⟩ : ∃ f, firstM t xs 0 = f := ⟨_, rfl⟩
  rw [hr, hf]
  have HR := Lib.hid hr
  have HF := Lib.hid hf
  have H := Lib.hid h
  clear hr hf h
  go_enter Try.func18, Try.ntmps18
  go_wp2_with fail
  go_loopg [14] xs.length (fun gk v14 wr => ∃ i : Nat, i + gk = xs.length ∧ v14 = .int .i64 (i : Int) ∧ Below w.heap.size w wr ∧ Aside0 (allR (xs.drop i) = r))
  case atStart => exact ⟨0, by omega, rfl, Below.refl _ _, ⟨HR.out⟩⟩
  case round =>
    obtain ⟨i, hi, rfl, hB, hA⟩ := hrel
    cases gk with
    | zero =>
      obtain rfl : i = xs.length := by omega
      obtain rfl : r = true := by have := hA.out; rw [List.drop_length] at this; exact this.symm
      clear hA
      go_wp2_with fail
      go_loopg [24] xs.length (fun gj v24 wx => ∃ i : Nat, i + gj = xs.length ∧ v24 = .int .i64 (i : Int) ∧ Below w.heap.size w wx ∧ Aside0 (firstM t (xs.drop i) i = f))
      case atStart => exact ⟨0, by omega, rfl, hB, ⟨HF.out⟩⟩
      case round =>
        clear hB
        obtain ⟨i, hi, rfl, hB, hA⟩ := hrel
        cases gk with
        | zero =>
          obtain rfl : i = xs.length := by omega
          obtain rfl : f = -1 := by have := hA.out; rw [List.drop_length] at this; exact this.symm
          go_wp2
          go_ret2
          exact ⟨rfl, hB⟩
        | succ j =>
          have hi2 : i < xs.length := by omega
          obtain ⟨x, hxe⟩ : ∃ x, xs[i]? = some x := ⟨xs[i], List.getElem?_eq_getElem hi2⟩
          obtain ⟨ad, rfl, hc⟩ := RS.at' (ReadsOf.below H.out hB) i x hxe
          obtain ⟨hs1, hs2⟩ := hx x (List.mem_of_getElem? hxe)
          have hA2 := hA.out
          rw [first_drop t xs i i x hxe] at hA2
          have hr1 : rightB x = true := by have := HR.out; exact List.all_eq_true.1 this x (List.mem_of_getElem? hxe)
          have HM := Lib.hid (match_any x t hs1 hs2)
          unfold codeB at HM
          rw [hr1] at HM
          have HA2 := Lib.hid hA2
          clear hA hA2 hxe hr1
          generalize matB x t = mb at *
          go_wp2_with fail
          refine (HM.out _).mono ?_
          rintro e w2 ⟨rfl, hb2⟩
          have hB2 := below_then hB hB.size hb2
          clear hb2 hB HM
          cases mb with
          | true =>
            obtain rfl : (i : Int) = f := HA2.out
            go_wp2
            go_ret2
            exact ⟨rfl, hB2⟩
          | false =>
            go_wp2
            go_roundg j
            case measure => omega
            case rel => exact ⟨i + 1, by omega, by go_num, hB2, ⟨HA2.out⟩⟩
    | succ j =>
      have hi2 : i < xs.length := by omega
      obtain ⟨x, hxe⟩ : ∃ x, xs[i]? = some x := ⟨xs[i], List.getElem?_eq_getElem hi2⟩
      obtain ⟨ad, rfl, hc⟩ := RS.at' (ReadsOf.below H.out hB) i x hxe
      obtain ⟨hs1, hs2⟩ := hx x (List.mem_of_getElem? hxe)
      have hA2 := hA.out
      rw [all_drop xs i x hxe] at hA2
      have HM := Lib.hid (right_any x hs1)
      have HA2 := Lib.hid hA2
      clear hA hA2 hxe
      generalize rightB x = rb at *
      go_wp2_with fail
      refine (HM.out _).mono ?_
      rintro e w2 ⟨rfl, hb2⟩
      have hB2 := below_then hB hB.size hb2
      clear hb2 hB HM
      cases rb with
      | false =>
        obtain rfl : false = r := HA2.out
        go_wp2
        go_ret2
        exact ⟨rfl, hB2⟩
      | true =>
        go_wp2
        go_roundg j
        case measure => omega
        case rel => exact ⟨i + 1, by omega, by go_num, hB2, ⟨HA2.out⟩⟩
set_option maxHeartbeats 6400000 in
theorem law_any (A : Option Addr) (cap : Nat) (xs : List ByteArray) (t : ByteArray) (hn8 : xs.length ≤ 8) (w : World) (h : RS w A xs) :
    Calls Try.prog 6 #[.slice A xs.length cap, .string t] w fun e w' => e = .returned (.bool true) ∧ Below w.heap.size w w' := by
  have H := Lib.hid h
  clear h
  go_enter Try.func6, Try.ntmps6
  go_wp2_with fail
  refine (alive_glob _).mono ?_
  rintro e w1 ⟨rfl, hB1⟩
  go_wp2_with fail
  go_loopg [7, 5, 6] xs.length (fun gk v7 v5 v6 wr => ∃ (i : Nat) (f : Int) (bad : Bool), i + gk = xs.length ∧ v7 = .int .i64 (i : Int) ∧ v5 = .int .i64 f ∧ v6 = .bool bad ∧ Below w.heap.size w wr ∧ -1 ≤ f ∧ f ≤ 8 ∧
    Aside0 ((∀ x ∈ xs.take i, x.size ≤ 1000 ∧ t.size ≤ 1000) ∧ (bad = true → allR xs = false) ∧ (bad = false → allR xs = allR (xs.drop i) ∧ firstM t xs 0 = if f < 0 then firstM t (xs.drop i) i else f)))
  case atStart => exact ⟨0, -1, false, by omega, rfl, rfl, rfl, hB1, by omega, by omega, ⟨fun x hx => by simp at hx, fun h => (Bool.noConfusion h), fun _ => ⟨rfl, rfl⟩⟩⟩
  case round =>
    clear hB1
    obtain ⟨i, f, bad, hi, rfl, rfl, rfl, hB, hf1, hf2, hA⟩ := hrel
    cases gk with
    | zero =>
      obtain rfl : i = xs.length := by omega
      obtain ⟨hs, hb1, hb2⟩ := hA.out
      rw [List.take_length] at hs
      rw [List.drop_length] at hb2
      have HY := Lib.hid (fun W hW => any_glob A cap xs t hs (by omega) W (ReadsOf.below H.out hW))
      clear hA hs
      cases bad with
      | true =>
        have h0 := hb1 rfl
        rw [h0] at HY
        clear hb1 hb2 h0
        go_wp2_with fail
        refine (HY.out _ hB).mono ?_
        rintro e w2 ⟨rfl, hb⟩
        have hB2 := below_then hB hB.size hb
        clear hb hB HY
        go_wp2
        go_ret
        exact ⟨rfl, hB2⟩
      | false =>
        obtain ⟨h0, h1⟩ := hb2 rfl
        have h2 : allR xs = true := h0
        have h3 : firstM t xs 0 = f := by
          rw [h1]
          by_cases hf : f < 0
          · rw [if_pos hf]; show (-1 : Int) = f; omega
          · rw [if_neg hf]
        rw [h2, h3] at HY
        clear hb1 hb2 h0 h1 h2 h3
        go_wp2_with fail
        refine (HY.out _ hB).mono ?_
        rintro e w2 ⟨rfl, hb⟩
        have hB2 := below_then hB hB.size hb
        clear hb hB HY
        go_wp2
        go_ret
        exact ⟨rfl, hB2⟩
    | succ j =>
      have hi2 : i < xs.length := by omega
      obtain ⟨x, hxe⟩ : ∃ x, xs[i]? = some x := ⟨xs[i], List.getElem?_eq_getElem hi2⟩
      obtain ⟨ad, rfl, _⟩ := RS.at' (ReadsOf.below H.out hB) i x hxe
      have HC := Lib.hid (show ∀ W : World, Below w.heap.size w W → W.cell? (ad.add i) = some (.string x) from fun W hW => by
        obtain ⟨ad2, e, hc⟩ := RS.at' (ReadsOf.below H.out hW) i x hxe
        injection e with e
        rw [← e] at hc
        exact hc)
      have HXE := Lib.hid hxe
      clear hxe
      have hc := HC.out _ hB
      go_wp2_with fail
      refine (far_glob x t _).mono ?_
      rintro e w2 ⟨b, rfl, hfar, hb⟩
      have hB2 := below_then hB hB.size hb
      clear hb hB hc
      cases b with
      | true =>
        go_wp2
        go_ret
        exact ⟨rfl, hB2⟩
      | false =>
        obtain ⟨hs1, hs2⟩ := hfar rfl
        clear hfar
        obtain ⟨hs, hb1, hb2⟩ := hA.out
        have hsn : ∀ y ∈ xs.take (i + 1), y.size ≤ 1000 ∧ t.size ≤ 1000 := by
          intro y hy
          rw [List.take_add_one, HXE.out] at hy
          rcases List.mem_append.1 hy with hy | hy
          · exact hs y hy
          · obtain rfl : y = x := by simpa using hy
            exact ⟨by omega, by omega⟩
        have HS := Lib.hid hsn
        have HB1 := Lib.hid hb1
        have HB2 := Lib.hid hb2
        clear hA hs hsn hb1 hb2
        have hc := HC.out _ hB2
        rcases both x with ⟨h0, h1, h2⟩ | ⟨qs, ys, h0, h1, h2, _, _, _⟩
        · have PC := Lib.hid (pieces_ref x _ h2 (by omega))
          have hall : allR xs = false := by
            rw [allR, List.all_eq_false]
            exact ⟨x, List.mem_of_getElem? HXE.out, by rw [h0]; decide⟩
          have HALL := Lib.hid hall
          clear h0 h1 h2 hall
          go_wp2_with fail
          refine (PC.out _).mono ?_
          rintro e w4 ⟨rfl, hb4⟩
          have hB4 := below_then hB2 hB2.size hb4
          clear hb4 hB2 PC hc
          go_wp2
          go_roundg j
          case measure => omega
          case rel => exact ⟨i + 1, f, true, by omega, by go_num, rfl, rfl, hB4, hf1, hf2, ⟨HS.out, fun _ => HALL.out, fun h => (Bool.noConfusion h)⟩⟩
        · have PC := Lib.hid (pieces_ref x _ h2 (by omega))
          have MR := Lib.hid (match_ref x t (by omega) (by omega) (x.size + 1) x.data.toList 0 t.data.toList 0 (Pos.zero x) (Pos.zero t) h0)
          have MR' : Hid (∀ W : World, Calls Try.prog 17 #[.string x, .int .i64 0, .string t, .int .i64 0] W fun e w' => e = .returned (.bool (matB x t)) ∧ Below W.heap.size W w') := MR
          have hstep : bad = false → allR xs = allR (xs.drop (i + 1)) ∧ firstM t xs 0 = if f < 0 then (if matB x t then (i : Int) else firstM t (xs.drop (i + 1)) (i + 1)) else f := fun h => by
            obtain ⟨g1, g2⟩ := HB2.out h
            rw [all_drop xs i x HXE.out, h0, Bool.true_and] at g1
            rw [first_drop t xs i i x HXE.out] at g2
            exact ⟨g1, g2⟩
          have HST := Lib.hid hstep
          clear h0 h1 h2 MR hstep
          generalize matB x t = mb at *
          go_wp2_with fail
          refine (PC.out _).mono ?_
          rintro e w4 ⟨v, zs, rfl, _, _, hb4, _⟩
          have hB4 := below_then hB2 hB2.size hb4
          clear hb4 hB2 PC hc
          have hc := HC.out _ hB4
          by_cases hf : f < 0
          · have hd : decide (f < 0) = true := decide_eq_true hf
            go_wp2_with fail
            refine (MR'.out _).mono ?_
            rintro e w5 ⟨rfl, hb5⟩
            have hB5 := below_then hB4 hB4.size hb5
            clear hb5 hB4 MR' hc
            cases mb with
            | true =>
              go_wp2
              go_roundg j
              case measure => omega
              case rel => exact ⟨i + 1, (i : Int), bad, by omega, by go_num, rfl, rfl, hB5, by omega, by omega, ⟨HS.out, HB1.out, fun h => ⟨(HST.out h).1, by rw [(HST.out h).2, if_pos hf, if_neg (show ¬ ((i : Int) < 0) by omega)]; exact if_pos trivial⟩⟩⟩
            | false =>
              go_wp2
              go_roundg j
              case measure => omega
              case rel => exact ⟨i + 1, f, bad, by omega, by go_num, rfl, rfl, hB5, hf1, hf2, ⟨HS.out, HB1.out, fun h => ⟨(HST.out h).1, by rw [(HST.out h).2, if_pos hf, if_pos hf]; rfl⟩⟩⟩
          · have hd : decide (f < 0) = false := decide_eq_false hf
            clear MR'
            go_wp2
            go_roundg j
            case measure => omega
            case rel => exact ⟨i + 1, f, bad, by omega, by go_num, rfl, rfl, hB4, hf1, hf2, ⟨HS.out, HB1.out, fun h => ⟨(HST.out h).1, by rw [(HST.out h).2, if_neg (show ¬ f < 0 by omega), if_neg (show ¬ f < 0 by omega)]⟩⟩⟩
theorem law_any_far (n cap : Nat) (A : Option Addr) (t : ByteArray) (hn : 8 < n) (hm : n ≤ 9223372036854775807) (w : World) :
    Calls Try.prog 6 #[.slice A n cap, .string t] w fun e w' => e = .returned (.bool true) ∧ Below w.heap.size w w' := by
  have hd : decide (8 < n) = true := decide_eq_true hn
  go_enter Try.func6, Try.ntmps6
  go_wp2_with fail
  refine (alive_glob _).mono ?_
  rintro e w1 ⟨rfl, hB1⟩
  go_wp2
  go_ret
  exact ⟨rfl, hB1⟩
end Go.Proofs.Ytnigmpkflmanoaa.Gl
