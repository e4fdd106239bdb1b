/- The walk of list.Mode: what it reads out of a text of ten signs. No condition. -/
import Derived.Test.YtnigmpkflmanoaaSgW
import Derived.Test.YtnigmpkflmanoaaShelf
import Derived.Deep.QuietTactic
import Derived.BigQuiet
namespace Go.Proofs.Ytnigmpkflmanoaa.Sg
open Go.RowKit Go.Proofs.YtnigmpkflmanoaaW.PrintWords Go.Proofs.YtnigmpkflmanoaaW.PrintLast Go.Proofs.YtnigmpkflmanoaaW.PrintMore
open Go.Proofs.Ytnigmpkflmanoaa.Sig
theorem add_x (i : Nat) (c : UInt8) (h : ((c.toNat : Int) == 120) = true ∨ ((c.toNat : Int) == 119) = true ∨ ((c.toNat : Int) == 114) = true) : add i c = 2 ^ (9 - i) := by
  unfold add
  rw [if_pos]
  simp only [beq_iff_eq] at h
  rcases h with h | h | h
  · exact .inl (UInt8.toNat.inj (by show c.toNat = 120; omega))
  · exact .inr (.inl (UInt8.toNat.inj (by show c.toNat = 119; omega)))
  · exact .inr (.inr (UInt8.toNat.inj (by show c.toNat = 114; omega)))
theorem add_s (i : Nat) (c : UInt8) (h : ((c.toNat : Int) == 115) = true ∨ ((c.toNat : Int) == 116) = true) : add i c = 2 ^ (9 - i) ||| 2 ^ (12 - i / 3) := by
  simp only [beq_iff_eq] at h
  have hc : c = 115 ∨ c = 116 := by
    rcases h with h | h
    · exact .inl (UInt8.toNat.inj (by show c.toNat = 115; omega))
    · exact .inr (UInt8.toNat.inj (by show c.toNat = 116; omega))
  rcases hc with rfl | rfl <;> rfl
theorem add_S (i : Nat) (c : UInt8) (h : ((c.toNat : Int) == 83) = true ∨ ((c.toNat : Int) == 84) = true) : add i c = 2 ^ (12 - i / 3) := by
  simp only [beq_iff_eq] at h
  have hc : c = 83 ∨ c = 84 := by
    rcases h with h | h
    · exact .inl (UInt8.toNat.inj (by show c.toNat = 83; omega))
    · exact .inr (UInt8.toNat.inj (by show c.toNat = 84; omega))
  rcases hc with rfl | rfl <;> rfl
theorem ne_of (c : UInt8) (n : Nat) (h : ((c.toNat : Int) == (n : Int)) = false) : c.toNat ≠ n := by
  simp only [beq_eq_false_iff_ne] at h
  omega
theorem add_none (i : Nat) (c : UInt8) (h1 : ((c.toNat : Int) == 120) = false) (h2 : ((c.toNat : Int) == 119) = false) (h3 : ((c.toNat : Int) == 114) = false) (h4 : ((c.toNat : Int) == 115) = false)
    (h5 : ((c.toNat : Int) == 116) = false) (h6 : ((c.toNat : Int) == 83) = false) (h7 : ((c.toNat : Int) == 84) = false) : add i c = 0 := by
  have n1 := ne_of c 120 h1
  have n2 := ne_of c 119 h2
  have n3 := ne_of c 114 h3
  have n4 := ne_of c 115 h4
  have n5 := ne_of c 116 h5
  have n6 := ne_of c 83 h6
  have n7 := ne_of c 84 h7
  unfold add
  rw [if_neg, if_neg, if_neg]
  · rintro (rfl | rfl)
    · exact n6 rfl
    · exact n7 rfl
  · rintro (rfl | rfl)
    · exact n4 rfl
    · exact n5 rfl
  · rintro (rfl | rfl | rfl)
    · exact n1 rfl
    · exact n2 rfl
    · exact n3 rfl
theorem add_lt (i : Nat) (c : UInt8) : add i c < 2 ^ 13 := by
  have h1 : (2 : Nat) ^ (9 - i) < 2 ^ 13 := Nat.pow_lt_pow_right (by omega) (by omega)
  have h2 : (2 : Nat) ^ (12 - i / 3) < 2 ^ 13 := Nat.pow_lt_pow_right (by omega) (by omega)
  unfold add
  repeat' split
  · exact h1
  · exact Nat.or_lt_two_pow h1 h2
  · exact h2
  · omega
theorem decTo_succ (l : List UInt8) (j : Nat) : decTo l (j + 1) = decTo l j ||| add (j + 1) (l.getD j 0) := by simp [decTo, List.range_succ]
theorem decTo_lt (l : List UInt8) (j : Nat) : decTo l j < 2 ^ 13 := by
  induction j with
  | zero => simp [decTo]
  | succ j ih => rw [decTo_succ]; exact Nat.or_lt_two_pow ih (add_lt _ _)
theorem i64_or (a b : Nat) (ha : a < 2 ^ 13) (hb : b < 2 ^ 13) : bits .or .i64 (a : Int) (b : Int) = ((a ||| b : Nat) : Int) := by
  have hx : a ||| b < 2 ^ 13 := Nat.or_lt_two_pow ha hb
  show IntKind.i64.wrap ((BitVec.ofInt 64 (a : Int) ||| BitVec.ofInt 64 (b : Int)).toNat : Int) = _
  have e : ∀ x : Nat, x < 2 ^ 13 → (BitVec.ofInt 64 (x : Int)).toNat = x := fun x h => by
    rw [BitVec.ofInt_natCast, BitVec.toNat_ofNat]; exact Nat.mod_eq_of_lt (by omega)
  rw [BitVec.toNat_or, e a ha, e b hb, IntKind.wrap_i64]
  omega
theorem w8 (j : Nat) (h : j < 9) : wrap64 ((2 : Int) ^ (8 - j)) = ((2 ^ (9 - (j + 1)) : Nat) : Int) := by
  have hc : j = 0 ∨ j = 1 ∨ j = 2 ∨ j = 3 ∨ j = 4 ∨ j = 5 ∨ j = 6 ∨ j = 7 ∨ j = 8 := by omega
  rcases hc with rfl | rfl | rfl | rfl | rfl | rfl | rfl | rfl | rfl <;> (unfold wrap64; decide)
theorem w12 (j : Nat) (h : j < 9) : wrap64 ((2 : Int) ^ (12 - (j + 1) / 3)) = ((2 ^ (12 - (j + 1) / 3) : Nat) : Int) := by
  have hc : j = 0 ∨ j = 1 ∨ j = 2 ∨ j = 3 ∨ j = 4 ∨ j = 5 ∨ j = 6 ∨ j = 7 ∨ j = 8 := by omega
  rcases hc with rfl | rfl | rfl | rfl | rfl | rfl | rfl | rfl | rfl <;> (unfold wrap64; decide)
theorem p8 (j : Nat) : (2 : Nat) ^ (9 - (j + 1)) < 2 ^ 13 := Nat.pow_lt_pow_right (by omega) (by omega)
theorem p12 (j : Nat) : (2 : Nat) ^ (12 - (j + 1) / 3) < 2 ^ 13 := Nat.pow_lt_pow_right (by omega) (by omega)
theorem way_x (l : List UInt8) (j : Nat) (hj : j < 9) (c : UInt8) (hc : l.getD j 0 = c) (h : ((c.toNat : Int) == 120) = true ∨ ((c.toNat : Int) == 119) = true ∨ ((c.toNat : Int) == 114) = true) :
    Value.int .i64 (bits .or .i64 ((decTo l j : Nat) : Int) (wrap64 ((2 : Int) ^ (8 - j)))) = .int .i64 ((decTo l (j + 1) : Nat) : Int) := by
  rw [w8 j hj, i64_or _ _ (decTo_lt _ _) (p8 j), decTo_succ, hc, add_x _ _ h]
theorem way_s (l : List UInt8) (j : Nat) (hj : j < 9) (c : UInt8) (hc : l.getD j 0 = c) (h : ((c.toNat : Int) == 115) = true ∨ ((c.toNat : Int) == 116) = true) :
    Value.int .i64 (bits .or .i64 ((decTo l j : Nat) : Int) (bits .or .i64 (wrap64 ((2 : Int) ^ (8 - j))) (wrap64 ((2 : Int) ^ (12 - (j + 1) / 3))))) = .int .i64 ((decTo l (j + 1) : Nat) : Int) := by
  rw [w8 j hj, w12 j hj, i64_or _ _ (p8 j) (p12 j), i64_or _ _ (decTo_lt _ _) (Nat.or_lt_two_pow (p8 j) (p12 j)), decTo_succ, hc, add_s _ _ h]
theorem way_S (l : List UInt8) (j : Nat) (hj : j < 9) (c : UInt8) (hc : l.getD j 0 = c) (h : ((c.toNat : Int) == 83) = true ∨ ((c.toNat : Int) == 84) = true) :
    Value.int .i64 (bits .or .i64 ((decTo l j : Nat) : Int) (wrap64 ((2 : Int) ^ (12 - (j + 1) / 3)))) = .int .i64 ((decTo l (j + 1) : Nat) : Int) := by
  rw [w12 j hj, i64_or _ _ (decTo_lt _ _) (p12 j), decTo_succ, hc, add_S _ _ h]
theorem way_none (l : List UInt8) (j : Nat) (c : UInt8) (hc : l.getD j 0 = c) (h1 : ((c.toNat : Int) == 120) = false) (h2 : ((c.toNat : Int) == 119) = false) (h3 : ((c.toNat : Int) == 114) = false) (h4 : ((c.toNat : Int) == 115) = false)
    (h5 : ((c.toNat : Int) == 116) = false) (h6 : ((c.toNat : Int) == 83) = false) (h7 : ((c.toNat : Int) == 84) = false) :
    Value.int .i64 ((decTo l j : Nat) : Int) = .int .i64 ((decTo l (j + 1) : Nat) : Int) := by
  rw [decTo_succ, hc, add_none _ _ h1 h2 h3 h4 h5 h6 h7, Nat.or_zero]
theorem tail_at (s : ByteArray) (j : Nat) (h : j + 1 < s.size) : s.data.toList.tail.getD j 0 = s[j + 1] := by
  have h' : j + 1 < s.data.toList.length := by simpa using h
  rw [List.getD_eq_getElem?_getD, List.getElem?_tail, List.getElem?_eq_getElem h']
  rfl
/-- the kind that the first sign tells; below 1: none. -/
def kidx (l : List UInt8) : Int := Lib.indexByte [63, 45, 104, 108, 99, 98, 100, 112] (l.getD 0 0)
def good (l : List UInt8) : Bool := decide (l.length = 10 ∧ 1 ≤ kidx l ∧ sgl (kidx l) (dec l.tail : Nat) = l)
def modeK (l : List UInt8) : Int := if good l then kidx l else 0
def modeM (l : List UInt8) : Int := if good l then ((dec l.tail : Nat) : Int) else 0
def modeE (l : List UInt8) : Int := if good l then 0 else 15
theorem head_at (s : ByteArray) (h : 0 < s.size) : s.data.toList.getD 0 0 = s[0] := by
  have h' : 0 < s.data.toList.length := by simpa using h
  rw [List.getD_eq_getElem?_getD, List.getElem?_eq_getElem h']
  rfl

theorem mode_few (s : ByteArray) (hs : ¬ s.size = 10) (w : World) :
    Calls Try.prog 11 #[.string s] w fun e w' => e = .returned (.tuple #[.int .i64 (modeK s.data.toList), .int .i64 (modeM s.data.toList), .int .u8 (modeE s.data.toList)]) ∧ Below w.heap.size w w' := by
  have hn : ((s.size : Int) != 10) = true := by rw [bne_iff_ne]; omega
  have hg : good s.data.toList = false := decide_eq_false (fun h => hs (by simpa using h.1))
  have ek : modeK s.data.toList = 0 := by unfold modeK; rw [hg]; rfl
  have em : modeM s.data.toList = 0 := by unfold modeM; rw [hg]; rfl
  have ee : modeE s.data.toList = 15 := by unfold modeE; rw [hg]; rfl
  rw [ek, em, ee]
  clear ek em ee hg hs
  go_enter Try.func11, Try.ntmps11
  go_wp2
  go_ret3
  exact ⟨rfl, Below.refl _ _⟩

set_option maxRecDepth 100000 in
set_option maxHeartbeats 1600000 in
theorem mode_ten (s : ByteArray) (hs : s.size = 10) (w : World) :
    Calls Try.prog 11 #[.string s] w fun e w' => e = .returned (.tuple #[.int .i64 (modeK s.data.toList), .int .i64 (modeM s.data.toList), .int .u8 (modeE s.data.toList)]) ∧ Below w.heap.size w w' := by
  have hs0 : 0 < s.size := by omega
  have hn : ((s.size : Int) != 10) = false := by rw [hs]; rfl
  obtain ⟨kk, hkk⟩ : ∃ kk, kidx s.data.toList = kk := ⟨_, rfl⟩
  have Hk : Lib.indexByte [63, 45, 104, 108, 99, 98, 100, 112] s[0] = kk := by rw [← hkk, kidx, head_at s hs0]
  have Hs := Lib.hid hs
  have HKK := Lib.hid hkk
  clear hs hkk
  go_enter Try.func11, Try.ntmps11
  go_wp2_with (go_at_call 22; refine (Try.strings_IndexByte _ _ _).mono ?_; rintro e w1 ⟨rfl, hw1⟩; obtain rfl := hw1.symm)
  clear Hk
  go_loopw [6, 7] (fun m i wr => ∃ j : Nat, j ≤ 9 ∧ i = .int .i64 ((j : Int) + 1) ∧ m = .int .i64 (decTo s.data.toList.tail j : Nat) ∧ Below w.heap.size w wr) (fun _ i _ => (10 - intOf i).toNat)
  case atStart => exact ⟨0, by omega, rfl, rfl, Below.refl _ _⟩
  case round =>
    obtain ⟨j, hj, rfl, rfl, hbel⟩ := hrel
    by_cases hlt : j < 9
    · have hjs : j + 1 < s.size := by rw [Hs.out]; omega
      have Hc := Lib.hid (tail_at s j hjs)
      go_wp2_with fail
      all_goals first
        | (go_quiet (fail)
           go_wp2
           go_roundw
           case measure => simp [intOf]; omega
           case rel => exact ⟨j + 1, by omega, by go_num, way_s _ j hlt _ Hc.out (by first | exact .inl (by assumption) | exact .inr (by assumption)), pw_below_drewN hbel _⟩)
        | (go_roundw
           case measure => simp [intOf]; omega
           case rel => exact ⟨j + 1, by omega, by go_num, by first | exact way_x _ j hlt _ Hc.out (by first | exact .inl (by assumption) | exact .inr (.inl (by assumption)) | exact .inr (.inr (by assumption))) | exact way_S _ j hlt _ Hc.out (by first | exact .inl (by assumption) | exact .inr (by assumption)) | exact way_none _ j _ Hc.out (by assumption) (by assumption) (by assumption) (by assumption) (by assumption) (by assumption) (by assumption), hbel⟩)
    · obtain rfl : j = 9 := by omega
      have hsz := hbel.size
      by_cases hk1 : kk < 1
      · have hg : good s.data.toList = false := decide_eq_false (fun h => by have := h.2.1; rw [HKK.out] at this; omega)
        have H := Lib.hid (And.intro (show modeK s.data.toList = 0 by unfold modeK; rw [hg]; rfl) (And.intro (show modeM s.data.toList = 0 by unfold modeM; rw [hg]; rfl) (show modeE s.data.toList = 15 by unfold modeE; rw [hg]; rfl)))
        clear hg
        go_wp2
        go_ret3
        rw [H.out.1, H.out.2.1, H.out.2.2]
        exact ⟨rfl, hbel⟩
      · by_cases hg : sgl kk ((dec s.data.toList.tail : Nat) : Int) = s.data.toList
        · have hgo : good s.data.toList = true := decide_eq_true ⟨by simpa using Hs.out, by rw [HKK.out]; omega, by rw [HKK.out]; exact hg⟩
          have H := Lib.hid (And.intro (show modeK s.data.toList = kk by unfold modeK; rw [hgo, ← HKK.out]; rfl) (And.intro (show modeM s.data.toList = ((dec s.data.toList.tail : Nat) : Int) by unfold modeM; rw [hgo]; rfl) (show modeE s.data.toList = 0 by unfold modeE; rw [hgo]; rfl)))
          have Hg := Lib.hid hg
          clear hg hgo
          go_wp2_with fail
          refine (signs_any _ _ _).mono ?_
          rintro e w1 ⟨rfl, hb1⟩
          have es : (⟨(sgl kk ((decTo s.data.toList.tail 9 : Nat) : Int)).toArray⟩ : ByteArray) = s := by rw [show decTo s.data.toList.tail 9 = dec s.data.toList.tail from rfl, Hg.out]
          rw [es]
          clear es
          go_wp2
          go_ret3
          rw [H.out.1, H.out.2.1, H.out.2.2]
          exact ⟨rfl, below_then hbel hsz hb1⟩
        · have hgo : good s.data.toList = false := decide_eq_false (fun h => hg (by have := h.2.2; rw [HKK.out] at this; exact this))
          have H := Lib.hid (And.intro (show modeK s.data.toList = 0 by unfold modeK; rw [hgo]; rfl) (And.intro (show modeM s.data.toList = 0 by unfold modeM; rw [hgo]; rfl) (show modeE s.data.toList = 15 by unfold modeE; rw [hgo]; rfl)))
          have hne : (sgl kk ((decTo s.data.toList.tail 9 : Nat) : Int) == s.toList) = false := by
            rw [ByteArray.toList_eq]
            exact beq_eq_false_iff_ne.2 hg
          clear hg hgo
          go_wp2_with fail
          refine (signs_any _ _ _).mono ?_
          rintro e w1 ⟨rfl, hb1⟩
          go_wp2
          go_ret3
          rw [H.out.1, H.out.2.1, H.out.2.2]
          exact ⟨rfl, below_then hbel hsz hb1⟩
theorem mode_any (s : ByteArray) (w : World) :
    Calls Try.prog 11 #[.string s] w fun e w' => e = .returned (.tuple #[.int .i64 (modeK s.data.toList), .int .i64 (modeM s.data.toList), .int .u8 (modeE s.data.toList)]) ∧ Below w.heap.size w w' := by
  by_cases hs : s.size = 10
  · exact mode_ten s hs w
  · exact mode_few s hs w
end Go.Proofs.Ytnigmpkflmanoaa.Sg
