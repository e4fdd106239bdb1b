-- PRINTED BY print.sh 35421559b90ae4d0a3588c463048766b98c2df88dd9212a6774a882060cdf62d: not written by this session
import Derived.Test.YtnigmpkflmanoaaPListSignsx0
namespace Go.Proofs.Ytnigmpkflmanoaa.PListSigns
open Go.RowKit Go.Proofs.YtnigmpkflmanoaaW.PrintWords Go.Proofs.YtnigmpkflmanoaaW.PrintLast Go.Proofs.YtnigmpkflmanoaaW.PrintMore
attribute [local go_sem] max2_int min2_int max_two min_two max_three min_three max_four min_four   -- for this text's walks alone
set_option linter.unusedVariables false
set_option linter.unusedSimpArgs false

-- NOT PRINTED: function 9 (list_Signs)

-- NOT PRINTED: function 40 (bytealg_IndexByteString)

-- NOT PRINTED: function 31 (stringslite_IndexByte)

-- NOT PRINTED: function 22 (strings_IndexByte)

-- NOT PRINTED: function 11 (list_Mode)

-- NOT PRINTED: function 8 (oakumlaw23_alive)

/-! ### oakumref23_bit: function 21 -/
mutual
def oakumref23_bit.j0 : Nat → Int → Int → Option (Bool)
  | 0, _, _ => none
  | k + 1, x1, x5 => oakumref23_bit.l0 k x1 x5 0
def oakumref23_bit.l0 : Nat → Int → Int → Int → Option (Bool)
  | 0, _, _, _ => none
  | k + 1, x1, x5, x6 => if x6 < x1 then (oakumref23_bit.l0 k x1 (wrap64 (Int.tdiv x5 2)) (wrap64 (x6 + 1))) else (some ((Int.tmod x5 2) == 1))
end
def oakumref23_bit.f (k : Nat) (a0 : Int) (a1 : Int) : Option (Bool) := if (Int.tmod a0 4096) < 0 then (oakumref23_bit.j0 k a1 (wrap64 ((Int.tmod a0 4096) + 4096))) else (oakumref23_bit.j0 k a1 (Int.tmod a0 4096))
theorem oakumref23_bit.mono_l : ∀ k, (∀ y0 y1, LeO (oakumref23_bit.j0 k y0 y1) (oakumref23_bit.j0 (k + 1) y0 y1)) ∧ (∀ y0 y1 y2, LeO (oakumref23_bit.l0 k y0 y1 y2) (oakumref23_bit.l0 (k + 1) y0 y1 y2))
  | 0 => ⟨fun _ _ r h => by simp [oakumref23_bit.j0] at h, fun _ _ _ r h => by simp [oakumref23_bit.l0] at h⟩
  | k + 1 => by
    obtain ⟨ih0, ih1⟩ := oakumref23_bit.mono_l k
    refine ⟨?_, ?_⟩
    · intro y0 y1
      unfold oakumref23_bit.j0
      repeat' first
      | (with_reducible exact ih0 _ _)
      | (with_reducible exact ih1 _ _ _)
      | (with_reducible exact LeO.refl _)
      | (with_reducible exact LeO.none _)
      | (with_reducible refine LeO.ite ?_ ?_)
      | (with_reducible refine LeO.bind ?_ (fun _ => ?_))
      | exact ih0 _ _
      | exact ih1 _ _ _
      | exact LeO.none _
      | refine LeO.ite ?_ ?_
      | refine LeO.bind ?_ (fun _ => ?_)
    · intro y0 y1 y2
      unfold oakumref23_bit.l0
      repeat' first
      | (with_reducible exact ih0 _ _)
      | (with_reducible exact ih1 _ _ _)
      | (with_reducible exact LeO.refl _)
      | (with_reducible exact LeO.none _)
      | (with_reducible refine LeO.ite ?_ ?_)
      | (with_reducible refine LeO.bind ?_ (fun _ => ?_))
      | exact ih0 _ _
      | exact ih1 _ _ _
      | exact LeO.none _
      | refine LeO.ite ?_ ?_
      | refine LeO.bind ?_ (fun _ => ?_)
theorem oakumref23_bit.mono : ∀ a0 a1 k, LeO (oakumref23_bit.f k a0 a1) (oakumref23_bit.f (k + 1) a0 a1) := by
  intro a0 a1 k
  obtain ⟨ih0, ih1⟩ := oakumref23_bit.mono_l k
  unfold oakumref23_bit.f
  repeat' first
      | (with_reducible exact ih0 _ _)
      | (with_reducible exact ih1 _ _ _)
      | (with_reducible exact LeO.refl _)
      | (with_reducible exact LeO.none _)
      | (with_reducible refine LeO.ite ?_ ?_)
      | (with_reducible refine LeO.bind ?_ (fun _ => ?_))
      | exact ih0 _ _
      | exact ih1 _ _ _
      | exact LeO.none _
      | refine LeO.ite ?_ ?_
      | refine LeO.bind ?_ (fun _ => ?_)
set_option maxHeartbeats 8000000 in
set_option maxRecDepth 100000 in
theorem oakumref23_bit.calls (k : Nat) (a0 : Int) (a1 : Int) (r : Bool) (w : World) (h : oakumref23_bit.f k a0 a1 = some r) :
    Calls Try.prog 21 #[.int .i64 a0, .int .i64 a1] w fun e w' => e = .returned (.bool r) ∧ Drawn0 w w' := by
  have H : (if (Int.tmod a0 4096) < 0 then (oakumref23_bit.j0 k a1 (wrap64 ((Int.tmod a0 4096) + 4096))) else (oakumref23_bit.j0 k a1 (Int.tmod a0 4096))) = some r := h
  clear h
  have HC3 := Aside0.mk H
  clear H
  go_enter Try.func21, Try.ntmps21
  go_upto_if 10 with (fail)
  go_cut [5] (fun v5 wc => ∃ (kq : Nat) (x5_2 : Int), v5 = .int .i64 x5_2 ∧ Aside0 (oakumref23_bit.j0 kq a1 x5_2 = some r) ∧ Aside0 (kq ≤ k) ∧ Drawn0 w wc)
  case first =>
    have H := HC3.out
    clear HC3
    by_cases c4 : (Int.tmod a0 4096) < 0
    · rw [if_pos c4] at H
      have c4b0 : decide ((Int.tmod a0 4096) < 0) = true := decide_eq_true c4
      clear c4
      (first | rw [c4b0] | (simp only [i64_w, i32_w]; rw [c4b0]) | skip)
      have H' := Aside0.mk H
      clear H
      go_wp2
      go_meet
      case rel => exact ⟨_, (wrap64 ((Int.tmod a0 4096) + 4096)), (by first | rfl | (simp; done) | (simp [*]; done)), H', ⟨by first | omega | exact Nat.le_refl _⟩, by repeat (first | exact Drawn0.refl _ | apply Drawn0.step)⟩
    · rw [if_neg c4] at H
      have c4b0 : decide ((Int.tmod a0 4096) < 0) = false := decide_eq_false c4
      clear c4
      (first | rw [c4b0] | (simp only [i64_w, i32_w]; rw [c4b0]) | skip)
      have H' := Aside0.mk H
      clear H
      go_wp2
      go_meet
      case rel => exact ⟨_, (Int.tmod a0 4096), (by first | rfl | (simp; done) | (simp [*]; done)), H', ⟨by first | omega | exact Nat.le_refl _⟩, by repeat (first | exact Drawn0.refl _ | apply Drawn0.step)⟩
  case rest =>
    clear HC3
    try clear c2
    try clear p2
    try clear c4
    try clear c4b0
    obtain ⟨kq, x5_2, rfl, HA, HJ2, ⟨mc2, rfl⟩⟩ := hcut
    cases kq with
    | zero => exact absurd HA.out (by simp [oakumref23_bit.j0])
    | succ kj2 =>
      have H := HA.out
      clear HA
      simp only [oakumref23_bit.j0] at H
      have H' := Aside0.mk H
      clear H
      go_wp2
      go_loopg [5, 6] kj2 (fun kq v5 v6 w' => ∃ (x5_2 : Int) (x6_2 : Int), v5 = .int .i64 x5_2 ∧ v6 = .int .i64 x6_2 ∧ Aside0 (oakumref23_bit.l0 kq a1 x5_2 x6_2 = some r) ∧ Aside0 (kq ≤ kj2) ∧ Drawn0 w w')
      case atStart => exact ⟨(x5_2), (0), (by first | rfl | (simp; done) | (simp [*]; done)), (by first | rfl | (simp; done) | (simp [*]; done)), H', ⟨Nat.le_refl _⟩, by repeat (first | exact Drawn0.refl _ | apply Drawn0.step)⟩
      case round =>
        clear H'
        try clear c2
        try clear p2
        try clear c4
        try clear c4b0
        try clear p2
        obtain ⟨x5_2, x6_2, rfl, rfl, HA, HK2, ⟨m2, rfl⟩⟩ := hrel
        cases gk with
        | zero => exact absurd HA.out (by simp [oakumref23_bit.l0])
        | succ k2 =>
          have H := HA.out
          clear HA
          simp only [oakumref23_bit.l0] at H
          by_cases c5 : x6_2 < a1
          · rw [if_pos c5] at H
            have c5b0 : decide (x6_2 < a1) = true := decide_eq_true c5
            clear c5
            have H' := Aside0.mk H
            clear H
            go_wp2
            go_roundg k2
            case measure => have := HJ2.out; have := HK2.out; omega
            case rel => exact ⟨(wrap64 (Int.tdiv x5_2 2)), (wrap64 (x6_2 + 1)), (by first | rfl | (simp; done) | (simp [*]; done)), (by first | rfl | (simp; done) | (simp [*]; done)), H', ⟨by have := HJ2.out; have := HK2.out; omega⟩, by repeat (first | exact Drawn0.refl _ | apply Drawn0.step)⟩
          · rw [if_neg c5] at H
            have c5b0 : decide (x6_2 < a1) = false := decide_eq_false c5
            clear c5
            obtain rfl := Option.some.inj H
            go_wp2
            go_ret
            exact ⟨by first | rfl | (simp; done) | (simp [*]; done), by repeat (first | exact Drawn0.refl _ | apply Drawn0.step)⟩

/-! ### oakumref23_Signs: function 10 -/
mutual
def oakumref23_Signs.j0 : Nat → Int → Int → ByteArray → Bool → Option (ByteArray)
  | 0, _, _, _, _ => none
  | k + 1, x0, x1, x5, x14 => if x14 = true then ((some (([(⟨#[45]⟩ : ByteArray), (⟨#[104]⟩ : ByteArray), (⟨#[108]⟩ : ByteArray), (⟨#[99]⟩ : ByteArray), (⟨#[98]⟩ : ByteArray), (⟨#[100]⟩ : ByteArray), (⟨#[112]⟩ : ByteArray)] : List ByteArray) : List ByteArray)).bind fun y110 => (if 0 ≤ (wrap64 (x0 - 1)) then (if (wrap64 (x0 - 1)) < (y110.length : Int) then (oakumref23_Signs.j1 k x1 (rdOf ByteArray.empty y110 (wrap64 (x0 - 1)))) else (none)) else (none))) else (oakumref23_Signs.j1 k x1 x5)
def oakumref23_Signs.j1 : Nat → Int → ByteArray → Option (ByteArray)
  | 0, _, _ => none
  | k + 1, x1, x5 => oakumref23_Signs.l0 k x1 x5 0
def oakumref23_Signs.l0 : Nat → Int → ByteArray → Int → Option (ByteArray)
  | 0, _, _, _ => none
  | k + 1, x1, x5, x6 => if x6 < 9 then ((oakumref23_bit.f k x1 (wrap64 (8 - x6))).bind fun t114 => (if t114 = true then ((some (([(⟨#[114]⟩ : ByteArray), (⟨#[119]⟩ : ByteArray), (⟨#[120]⟩ : ByteArray)] : List ByteArray) : List ByteArray)).bind fun y115 => (if 0 ≤ (Int.tmod x6 3) then (if (Int.tmod x6 3) < (y115.length : Int) then (oakumref23_Signs.j3 k x1 x5 x6 (rdOf ByteArray.empty y115 (Int.tmod x6 3))) else (none)) else (none))) else (oakumref23_Signs.j3 k x1 x5 x6 (⟨#[45]⟩ : ByteArray)))) else (some x5)
def oakumref23_Signs.j3 : Nat → Int → ByteArray → Int → ByteArray → Option (ByteArray)
  | 0, _, _, _, _ => none
  | k + 1, x1, x5, x6, x7 => if (Int.tmod x6 3) = 2 then ((oakumref23_bit.f k x1 (wrap64 (11 - (wrap64 (Int.tdiv x6 3))))).bind fun t119 => (oakumref23_Signs.j4 k x1 x5 x6 x7 t119)) else (oakumref23_Signs.j4 k x1 x5 x6 x7 false)
def oakumref23_Signs.j4 : Nat → Int → ByteArray → Int → ByteArray → Bool → Option (ByteArray)
  | 0, _, _, _, _, _ => none
  | k + 1, x1, x5, x6, x7, x42 => if x42 = true then ((some (([(⟨#[115]⟩ : ByteArray), (⟨#[115]⟩ : ByteArray), (⟨#[116]⟩ : ByteArray), (⟨#[83]⟩ : ByteArray), (⟨#[83]⟩ : ByteArray), (⟨#[84]⟩ : ByteArray)] : List ByteArray) : List ByteArray)).bind fun y120 => (if x7.toList = ([120] : List UInt8) then (if 0 ≤ (wrap64 (Int.tdiv x6 3)) then (if (wrap64 (Int.tdiv x6 3)) < (y120.length : Int) then (if x5.size + (rdOf ByteArray.empty y120 (wrap64 (Int.tdiv x6 3))).size ≤ 9223372036854775807 then (oakumref23_Signs.l0 k x1 (x5 ++ (rdOf ByteArray.empty y120 (wrap64 (Int.tdiv x6 3)))) (wrap64 (x6 + 1))) else (none)) else (none)) else (none)) else (if 0 ≤ (wrap64 (3 + (wrap64 (Int.tdiv x6 3)))) then (if (wrap64 (3 + (wrap64 (Int.tdiv x6 3)))) < (y120.length : Int) then (if x5.size + (rdOf ByteArray.empty y120 (wrap64 (3 + (wrap64 (Int.tdiv x6 3))))).size ≤ 9223372036854775807 then (oakumref23_Signs.l0 k x1 (x5 ++ (rdOf ByteArray.empty y120 (wrap64 (3 + (wrap64 (Int.tdiv x6 3)))))) (wrap64 (x6 + 1))) else (none)) else (none)) else (none)))) else (if x5.size + x7.size ≤ 9223372036854775807 then (oakumref23_Signs.l0 k x1 (x5 ++ x7) (wrap64 (x6 + 1))) else (none))
end
def oakumref23_Signs.f (k : Nat) (a0 : Int) (a1 : Int) : Option (ByteArray) := if a0 ≥ 1 then (oakumref23_Signs.j0 k a0 a1 (⟨#[63]⟩ : ByteArray) (decide (a0 ≤ 7))) else (oakumref23_Signs.j0 k a0 a1 (⟨#[63]⟩ : ByteArray) false)
theorem oakumref23_Signs.mono_l : ∀ k, (∀ y0 y1 y2 y3, LeO (oakumref23_Signs.j0 k y0 y1 y2 y3) (oakumref23_Signs.j0 (k + 1) y0 y1 y2 y3)) ∧ (∀ y0 y1, LeO (oakumref23_Signs.j1 k y0 y1) (oakumref23_Signs.j1 (k + 1) y0 y1)) ∧ (∀ y0 y1 y2, LeO (oakumref23_Signs.l0 k y0 y1 y2) (oakumref23_Signs.l0 (k + 1) y0 y1 y2)) ∧ (∀ y0 y1 y2 y3, LeO (oakumref23_Signs.j3 k y0 y1 y2 y3) (oakumref23_Signs.j3 (k + 1) y0 y1 y2 y3)) ∧ (∀ y0 y1 y2 y3 y4, LeO (oakumref23_Signs.j4 k y0 y1 y2 y3 y4) (oakumref23_Signs.j4 (k + 1) y0 y1 y2 y3 y4))
  | 0 => ⟨fun _ _ _ _ r h => by simp [oakumref23_Signs.j0] at h, fun _ _ r h => by simp [oakumref23_Signs.j1] at h, fun _ _ _ r h => by simp [oakumref23_Signs.l0] at h, fun _ _ _ _ r h => by simp [oakumref23_Signs.j3] at h, fun _ _ _ _ _ r h => by simp [oakumref23_Signs.j4] at h⟩
  | k + 1 => by
    obtain ⟨ih0, ih1, ih2, ih3, ih4⟩ := oakumref23_Signs.mono_l k
    refine ⟨?_, ?_, ?_, ?_, ?_⟩
    · intro y0 y1 y2 y3
      unfold oakumref23_Signs.j0
      repeat' first
      | (with_reducible exact ih0 _ _ _ _)
      | (with_reducible exact ih1 _ _)
      | (with_reducible exact ih2 _ _ _)
      | (with_reducible exact ih3 _ _ _ _)
      | (with_reducible exact ih4 _ _ _ _ _)
      | (with_reducible exact oakumref23_bit.mono _ _ _)
      | (with_reducible exact LeO.refl _)
      | (with_reducible exact LeO.none _)
      | (with_reducible refine LeO.ite ?_ ?_)
      | (with_reducible refine LeO.bind ?_ (fun _ => ?_))
      | exact ih0 _ _ _ _
      | exact ih1 _ _
      | exact ih2 _ _ _
      | exact ih3 _ _ _ _
      | exact ih4 _ _ _ _ _
      | exact oakumref23_bit.mono _ _ _
      | exact LeO.none _
      | refine LeO.ite ?_ ?_
      | refine LeO.bind ?_ (fun _ => ?_)
    · intro y0 y1
      unfold oakumref23_Signs.j1
      repeat' first
      | (with_reducible exact ih0 _ _ _ _)
      | (with_reducible exact ih1 _ _)
      | (with_reducible exact ih2 _ _ _)
      | (with_reducible exact ih3 _ _ _ _)
      | (with_reducible exact ih4 _ _ _ _ _)
      | (with_reducible exact oakumref23_bit.mono _ _ _)
      | (with_reducible exact LeO.refl _)
      | (with_reducible exact LeO.none _)
      | (with_reducible refine LeO.ite ?_ ?_)
      | (with_reducible refine LeO.bind ?_ (fun _ => ?_))
      | exact ih0 _ _ _ _
      | exact ih1 _ _
      | exact ih2 _ _ _
      | exact ih3 _ _ _ _
      | exact ih4 _ _ _ _ _
      | exact oakumref23_bit.mono _ _ _
      | exact LeO.none _
      | refine LeO.ite ?_ ?_
      | refine LeO.bind ?_ (fun _ => ?_)
    · intro y0 y1 y2
      unfold oakumref23_Signs.l0
      repeat' first
      | (with_reducible exact ih0 _ _ _ _)
      | (with_reducible exact ih1 _ _)
      | (with_reducible exact ih2 _ _ _)
      | (with_reducible exact ih3 _ _ _ _)
      | (with_reducible exact ih4 _ _ _ _ _)
      | (with_reducible exact oakumref23_bit.mono _ _ _)
      | (with_reducible exact LeO.refl _)
      | (with_reducible exact LeO.none _)
      | (with_reducible refine LeO.ite ?_ ?_)
      | (with_reducible refine LeO.bind ?_ (fun _ => ?_))
      | exact ih0 _ _ _ _
      | exact ih1 _ _
      | exact ih2 _ _ _
      | exact ih3 _ _ _ _
      | exact ih4 _ _ _ _ _
      | exact oakumref23_bit.mono _ _ _
      | exact LeO.none _
      | refine LeO.ite ?_ ?_
      | refine LeO.bind ?_ (fun _ => ?_)
    · intro y0 y1 y2 y3
      unfold oakumref23_Signs.j3
      repeat' first
      | (with_reducible exact ih0 _ _ _ _)
      | (with_reducible exact ih1 _ _)
      | (with_reducible exact ih2 _ _ _)
      | (with_reducible exact ih3 _ _ _ _)
      | (with_reducible exact ih4 _ _ _ _ _)
      | (with_reducible exact oakumref23_bit.mono _ _ _)
      | (with_reducible exact LeO.refl _)
      | (with_reducible exact LeO.none _)
      | (with_reducible refine LeO.ite ?_ ?_)
      | (with_reducible refine LeO.bind ?_ (fun _ => ?_))
      | exact ih0 _ _ _ _
      | exact ih1 _ _
      | exact ih2 _ _ _
      | exact ih3 _ _ _ _
      | exact ih4 _ _ _ _ _
      | exact oakumref23_bit.mono _ _ _
      | exact LeO.none _
      | refine LeO.ite ?_ ?_
      | refine LeO.bind ?_ (fun _ => ?_)
    · intro y0 y1 y2 y3 y4
      unfold oakumref23_Signs.j4
      repeat' first
      | (with_reducible exact ih0 _ _ _ _)
      | (with_reducible exact ih1 _ _)
      | (with_reducible exact ih2 _ _ _)
      | (with_reducible exact ih3 _ _ _ _)
      | (with_reducible exact ih4 _ _ _ _ _)
      | (with_reducible exact oakumref23_bit.mono _ _ _)
      | (with_reducible exact LeO.refl _)
      | (with_reducible exact LeO.none _)
      | (with_reducible refine LeO.ite ?_ ?_)
      | (with_reducible refine LeO.bind ?_ (fun _ => ?_))
      | exact ih0 _ _ _ _
      | exact ih1 _ _
      | exact ih2 _ _ _
      | exact ih3 _ _ _ _
      | exact ih4 _ _ _ _ _
      | exact oakumref23_bit.mono _ _ _
      | exact LeO.none _
      | refine LeO.ite ?_ ?_
      | refine LeO.bind ?_ (fun _ => ?_)
theorem oakumref23_Signs.mono : ∀ a0 a1 k, LeO (oakumref23_Signs.f k a0 a1) (oakumref23_Signs.f (k + 1) a0 a1) := by
  intro a0 a1 k
  obtain ⟨ih0, ih1, ih2, ih3, ih4⟩ := oakumref23_Signs.mono_l k
  unfold oakumref23_Signs.f
  repeat' first
      | (with_reducible exact ih0 _ _ _ _)
      | (with_reducible exact ih1 _ _)
      | (with_reducible exact ih2 _ _ _)
      | (with_reducible exact ih3 _ _ _ _)
      | (with_reducible exact ih4 _ _ _ _ _)
      | (with_reducible exact oakumref23_bit.mono _ _ _)
      | (with_reducible exact LeO.refl _)
      | (with_reducible exact LeO.none _)
      | (with_reducible refine LeO.ite ?_ ?_)
      | (with_reducible refine LeO.bind ?_ (fun _ => ?_))
      | exact ih0 _ _ _ _
      | exact ih1 _ _
      | exact ih2 _ _ _
      | exact ih3 _ _ _ _
      | exact ih4 _ _ _ _ _
      | exact oakumref23_bit.mono _ _ _
      | exact LeO.none _
      | refine LeO.ite ?_ ?_
      | refine LeO.bind ?_ (fun _ => ?_)
set_option maxHeartbeats 8000000 in
set_option maxRecDepth 100000 in
theorem oakumref23_Signs.calls (k : Nat) (a0 : Int) (a1 : Int) (r : ByteArray) (w : World) (h : oakumref23_Signs.f k a0 a1 = some r) :
    Calls Try.prog 10 #[.int .i64 a0, .int .i64 a1] w fun e w' => e = .returned (.string r) ∧ Below w.heap.size w w' := by
  have HB := Aside0.mk (Below.refl w.heap.size w)
  have H : (if a0 ≥ 1 then (oakumref23_Signs.j0 k a0 a1 (⟨#[63]⟩ : ByteArray) (decide (a0 ≤ 7))) else (oakumref23_Signs.j0 k a0 a1 (⟨#[63]⟩ : ByteArray) false)) = some r := h
  clear h
  have HC3 := Aside0.mk H
  clear H
  go_enter Try.func10, Try.ntmps10
  go_upto_region 2 with (fail)
  go_cut [14] (fun v14 wc => ∃ (kq : Nat) (x14_2 : Bool), v14 = .bool x14_2 ∧ Aside0 (oakumref23_Signs.j0 kq a0 a1 (⟨#[63]⟩ : ByteArray) x14_2 = some r) ∧ Aside0 (kq ≤ k) ∧ Aside0 (Below w.heap.size w wc))
  case first =>
    have H := HC3.out
    clear HC3
    by_cases c4 : a0 ≥ 1
    · rw [if_pos c4] at H
      have c4b0 : decide (1 ≤ a0) = true := decide_eq_true c4
      clear c4
      (first | rw [c4b0] | (simp only [i64_w, i32_w]; rw [c4b0]) | skip)
      have H' := Aside0.mk H
      clear H
      go_wp2
      go_meet
      case rel => exact ⟨_, (decide (a0 ≤ 7)), (by first | rfl | (simp; done) | (simp [*]; done)), H', ⟨by first | omega | exact Nat.le_refl _⟩, ⟨by repeat (first | (with_reducible first | exact HB.out | apply below_alloc | apply pw_below_drewN | apply below_drew1) | exact HB.out)⟩⟩
    · rw [if_neg c4] at H
      have c4b0 : decide (1 ≤ a0) = false := decide_eq_false c4
      clear c4
      (first | rw [c4b0] | (simp only [i64_w, i32_w]; rw [c4b0]) | skip)
      have H' := Aside0.mk H
      clear H
      go_wp2
      go_meet
      case rel => exact ⟨_, (false), (by first | rfl | (simp; done) | (simp [*]; done)), H', ⟨by first | omega | exact Nat.le_refl _⟩, ⟨by repeat (first | (with_reducible first | exact HB.out | apply below_alloc | apply pw_below_drewN | apply below_drew1) | exact HB.out)⟩⟩
  case rest =>
    clear HC3
    try clear c1
    try clear p2
    try clear c4
    try clear c4b0
    obtain ⟨kq, x14_2, rfl, HA, HJ2, HB⟩ := hcut
    cases kq with
    | zero => exact absurd HA.out (by simp [oakumref23_Signs.j0])
    | succ kj2 =>
      have H := HA.out
      clear HA
      simp only [oakumref23_Signs.j0] at H
      have HC5 := Aside0.mk H
      clear H
      go_upto_if 14 with (fail)
      go_cut [5] (fun v5 wc => ∃ (kq : Nat) (x5_4 : ByteArray), v5 = .string x5_4 ∧ Aside0 (oakumref23_Signs.j1 kq a1 x5_4 = some r) ∧ Aside0 (kq ≤ kj2) ∧ Aside0 (Below w.heap.size w wc))
      case first =>
        have H := HC5.out
        clear HC5
        by_cases c6 : x14_2 = true
        · subst c6
          have H1 : ((some (([(⟨#[45]⟩ : ByteArray), (⟨#[104]⟩ : ByteArray), (⟨#[108]⟩ : ByteArray), (⟨#[99]⟩ : ByteArray), (⟨#[98]⟩ : ByteArray), (⟨#[100]⟩ : ByteArray), (⟨#[112]⟩ : ByteArray)] : List ByteArray) : List ByteArray)).bind fun y110 => (if 0 ≤ (wrap64 (a0 - 1)) then (if (wrap64 (a0 - 1)) < (y110.length : Int) then (oakumref23_Signs.j1 kj2 a1 (rdOf ByteArray.empty y110 (wrap64 (a0 - 1)))) else (none)) else (none))) = some r := by rw [if_pos rfl] at H; exact H
          clear H
          have H := H1
          clear H1
          obtain ⟨y110, hy110⟩ : ∃ y_ : List ByteArray, y_ = (([(⟨#[45]⟩ : ByteArray), (⟨#[104]⟩ : ByteArray), (⟨#[108]⟩ : ByteArray), (⟨#[99]⟩ : ByteArray), (⟨#[98]⟩ : ByteArray), (⟨#[100]⟩ : ByteArray), (⟨#[112]⟩ : ByteArray)] : List ByteArray)) := ⟨_, rfl⟩
          replace H : (if 0 ≤ (wrap64 (a0 - 1)) then (if (wrap64 (a0 - 1)) < (y110.length : Int) then (oakumref23_Signs.j1 kj2 a1 (rdOf ByteArray.empty y110 (wrap64 (a0 - 1)))) else (none)) else (none)) = some r := by first | (rw [hy110]; with_reducible exact H) | (have H2_ := (Option.bind_some _ _).symm.trans H; rw [hy110]; with_reducible exact H2_) | (have H2_ := (Option.bind_some _ _).symm.trans H; with_reducible exact H2_) | with_reducible exact H | (rw [hy110]; exact H) | exact H
          have Ny110 := Aside0.mk hy110
          clear hy110
          obtain ⟨ji7, hji7⟩ : ∃ j_ : Int, (wrap64 (a0 - 1)) = j_ := ⟨_, rfl⟩
          replace H : (if 0 ≤ (ji7) then (if (ji7) < (y110.length : Int) then (oakumref23_Signs.j1 kj2 a1 (rdOf ByteArray.empty y110 (ji7))) else (none)) else (none)) = some r := by first | (rw [hji7] at H; exact H) | (simp only [hji7] at H ⊢; exact H)
          have hji7w : (IntKind.i64.wrap (a0 - 1)) = ji7 := (i64_w _).trans hji7
          by_cases c8 : 0 ≤ (ji7)
          · rw [if_pos c8] at H
            have c8b0 : decide (0 ≤ (ji7)) = true := decide_eq_true c8
            clear c8
            (first | rw [c8b0] | (simp only [i64_w, i32_w]; rw [c8b0]) | skip)
            by_cases c9 : (ji7) < (y110.length : Int)
            · rw [if_pos c9] at H
              have c9b0 : decide ((ji7) < (y110.length : Int)) = true := decide_eq_true c9
              clear c9
              have H' := Aside0.mk H
              clear H
              go_wp2_with (first | ((with_reducible refine gate_dst (N := 15) rfl ?_); refine Kd.R_lit Kd.string _ 9 ?hg (N := 15) ?hd (xs := ([(⟨#[45]⟩ : ByteArray), (⟨#[104]⟩ : ByteArray), (⟨#[108]⟩ : ByteArray), (⟨#[99]⟩ : ByteArray), (⟨#[98]⟩ : ByteArray), (⟨#[100]⟩ : ByteArray), (⟨#[112]⟩ : ByteArray)] : List ByteArray)) (inner := [.string (⟨#[45]⟩ : ByteArray), .string (⟨#[104]⟩ : ByteArray), .string (⟨#[108]⟩ : ByteArray), .string (⟨#[99]⟩ : ByteArray), .string (⟨#[98]⟩ : ByteArray), .string (⟨#[100]⟩ : ByteArray), .string (⟨#[112]⟩ : ByteArray)]) (ok := fun _ => True) (okp := fun _ => True) ?hr ?hp (fun _ hk => hk) trivial (Below.refl _ _) (Nat.le_refl _) (by simp) ?_; (case hd => rfl); (case hg => rfl); (case hr => first | (go_simp; done) | (go_simp; rfl)); (case hp => exact (Reps.one (show Kd.M Kd.string _ _ _ (⟨#[45]⟩ : ByteArray) [.string (⟨#[45]⟩ : ByteArray)] from rfl) (Reps.one (show Kd.M Kd.string _ _ _ (⟨#[104]⟩ : ByteArray) [.string (⟨#[104]⟩ : ByteArray)] from rfl) (Reps.one (show Kd.M Kd.string _ _ _ (⟨#[108]⟩ : ByteArray) [.string (⟨#[108]⟩ : ByteArray)] from rfl) (Reps.one (show Kd.M Kd.string _ _ _ (⟨#[99]⟩ : ByteArray) [.string (⟨#[99]⟩ : ByteArray)] from rfl) (Reps.one (show Kd.M Kd.string _ _ _ (⟨#[98]⟩ : ByteArray) [.string (⟨#[98]⟩ : ByteArray)] from rfl) (Reps.one (show Kd.M Kd.string _ _ _ (⟨#[100]⟩ : ByteArray) [.string (⟨#[100]⟩ : ByteArray)] from rfl) (Reps.one (show Kd.M Kd.string _ _ _ (⟨#[112]⟩ : ByteArray) [.string (⟨#[112]⟩ : ByteArray)] from rfl) (Reps.none _ _))))))))); intro v111 w10 ho11 hb hg_ hnew_; clear hg_ hnew_; (first | rw [← Ny110.out] at ho11 | (simp only [Int.reduceToNat] at ho11; rw [← Ny110.out] at ho11)); have n0_ := Aside0.mk (Kd.R_lower ho11 (below_size (by repeat (first | (with_reducible first | exact HB.out | apply below_alloc | apply pw_below_drewN | apply below_drew1) | exact HB.out)))); have n1_ := Aside0.mk (below_step (by repeat (first | (with_reducible first | exact HB.out | apply below_alloc | apply pw_below_drewN | apply below_drew1) | exact HB.out)) hb); clear HB; have HO112 := n0_; have HB := n1_; clear n0_ n1_; clear hb ho11; obtain ⟨Ao12, co12, eo12⟩ := Kd.R_slice HO112.out; subst eo12; have p113 : 0 ≤ ((ji7) : Int) := of_decide_eq_true (by first | (with_reducible assumption) | assumption); have q113 : (ji7) < (y110.length : Int) := of_decide_eq_true (by first | (with_reducible assumption) | assumption); obtain ⟨ad113, e113, hx113_0⟩ := Kd.at_string (Kd.R_reads' HO112.out).2.2 (ji7) p113 q113; cases e113; replace p113 := eq_true p113; replace q113 := eq_true q113))
              go_meet
              case rel => exact ⟨_, (rdOf ByteArray.empty y110 (ji7)), (by first | rfl | (simp; done) | (simp only [← hji7] <;> (first | rfl | simp)) | (simp [*]; done)), H', ⟨by have := HJ2.out; first | omega | exact Nat.le_refl _⟩, ⟨by repeat (first | (with_reducible first | exact HB.out | apply below_alloc | apply pw_below_drewN | apply below_drew1) | exact HB.out)⟩⟩
            · rw [if_neg c9] at H
              exact absurd H (by simp)
          · rw [if_neg c8] at H
            exact absurd H (by simp)
        · replace c6 := Bool.eq_false_iff.mpr c6
          subst c6
          have H1 : (oakumref23_Signs.j1 kj2 a1 (⟨#[63]⟩ : ByteArray)) = some r := by rw [if_neg (show ¬ (false = true) by decide)] at H; exact H
          clear H
          have H := H1
          clear H1
          have H' := Aside0.mk H
          clear H
          go_wp2
          go_meet
          case rel => exact ⟨_, ((⟨#[63]⟩ : ByteArray)), (by first | rfl | (simp; done) | (simp [*]; done)), H', ⟨by have := HJ2.out; first | omega | exact Nat.le_refl _⟩, ⟨by repeat (first | (with_reducible first | exact HB.out | apply below_alloc | apply pw_below_drewN | apply below_drew1) | exact HB.out)⟩⟩
      case rest =>
        clear HC5
        try clear c1
        try clear p1
        try clear q1
        try clear hx1
        try clear p2
        try clear c4
        try clear c4b0
        try clear c6
        try clear p6
        try clear c8
        try clear c8b0
        try clear c9
        try clear c9b0
        try clear c10
        try clear p11
        try clear q11
        try clear hx11
        try clear hx113_0
        try clear p113
        try clear p2
        try clear q113
        obtain ⟨kq, x5_4, rfl, HA, HJ4, HB⟩ := hcut
        cases kq with
        | zero => exact absurd HA.out (by simp [oakumref23_Signs.j1])
        | succ kj4 =>
          have H := HA.out
          clear HA
          simp only [oakumref23_Signs.j1] at H
          have H' := Aside0.mk H
          clear H
          go_wp2
          go_loopg [5, 6] kj4 (fun kq v5 v6 w' => ∃ (x5_3 : ByteArray) (x6_3 : Int), v5 = .string x5_3 ∧ v6 = .int .i64 x6_3 ∧ Aside0 (oakumref23_Signs.l0 kq a1 x5_3 x6_3 = some r) ∧ Aside0 (kq ≤ kj4) ∧ Aside0 (Below w.heap.size w w'))
          case atStart => exact ⟨(x5_4), (0), (by first | rfl | (simp; done) | (simp [*]; done)), (by first | rfl | (simp; done) | (simp [*]; done)), H', ⟨Nat.le_refl _⟩, ⟨by repeat (first | (with_reducible first | exact HB.out | apply below_alloc | apply pw_below_drewN | apply below_drew1) | exact HB.out)⟩⟩
          case round =>
            clear H'
            try clear c1
            try clear p1
            try clear q1
            try clear hx1
            try clear p2
            try clear c4
            try clear c4b0
            try clear c6
            try clear p6
            try clear c8
            try clear c8b0
            try clear c9
            try clear c9b0
            try clear c10
            try clear p11
            try clear q11
            try clear hx11
            try clear hx113_0
            try clear p1
            try clear p11
            try clear p113
            try clear p2
            try clear p6
            try clear q1
            try clear q11
            try clear q113
            obtain ⟨x5_3, x6_3, rfl, rfl, HA, HK3, HB⟩ := hrel
            cases gk with
            | zero => exact absurd HA.out (by simp [oakumref23_Signs.l0])
            | succ k3 =>
              have H := HA.out
              clear HA
              simp only [oakumref23_Signs.l0] at H
              by_cases c13 : x6_3 < 9
              · rw [if_pos c13] at H
                have c13b0 : decide (x6_3 < 9) = true := decide_eq_true c13
                clear c13
                replace H := Option.bind_eq_some_iff.mp H
                obtain ⟨t114, A140, H⟩ := H
                replace H : (if t114 = true then ((some (([(⟨#[114]⟩ : ByteArray), (⟨#[119]⟩ : ByteArray), (⟨#[120]⟩ : ByteArray)] : List ByteArray) : List ByteArray)).bind fun y115 => (if 0 ≤ (Int.tmod x6_3 3) then (if (Int.tmod x6_3 3) < (y115.length : Int) then (oakumref23_Signs.j3 k3 a1 x5_3 x6_3 (rdOf ByteArray.empty y115 (Int.tmod x6_3 3))) else (none)) else (none))) else (oakumref23_Signs.j3 k3 a1 x5_3 x6_3 (⟨#[45]⟩ : ByteArray))) = some r := H
                have A14 := Aside0.mk A140
                clear A140
                have HC15 := Aside0.mk H
                clear H
                go_upto_if 27 with (first | ((with_reducible refine gate_callee (f := 21) rfl ?_); refine goesL_ (some 27) rfl rfl Try.func21 (by kernel_rfl) rfl #[.int .i64 a1, .int .i64 (wrap64 (8 - x6_3))] rfl (by (try simp only [List.map_toArray, List.map_cons, List.map_nil]); first | done | rfl | (simp only [List.length_drop, List.length_take]; rfl)) ?_; (with_reducible refine (oakumref23_bit.calls k3 a1 (wrap64 (8 - x6_3)) t114 _ A14.out).mono ?_); rintro e w' ⟨rfl, ⟨nd, rfl⟩⟩; refine ⟨_, rfl, ?_⟩))
                (try simp only [Act.put, List.setIfInBounds_toArray, List.set_cons_zero, List.set_cons_succ])
                go_cut [7] (fun v7 wc => ∃ (kq : Nat) (x7_14 : ByteArray), v7 = .string x7_14 ∧ Aside0 (oakumref23_Signs.j3 kq a1 x5_3 x6_3 x7_14 = some r) ∧ Aside0 (kq ≤ k3) ∧ Aside0 (Below w.heap.size w wc))
                case first =>
                  have H := HC15.out
                  clear HC15
                  by_cases c16 : t114 = true
                  · subst c16
                    have H1 : ((some (([(⟨#[114]⟩ : ByteArray), (⟨#[119]⟩ : ByteArray), (⟨#[120]⟩ : ByteArray)] : List ByteArray) : List ByteArray)).bind fun y115 => (if 0 ≤ (Int.tmod x6_3 3) then (if (Int.tmod x6_3 3) < (y115.length : Int) then (oakumref23_Signs.j3 k3 a1 x5_3 x6_3 (rdOf ByteArray.empty y115 (Int.tmod x6_3 3))) else (none)) else (none))) = some r := by rw [if_pos rfl] at H; exact H
                    clear H
                    have H := H1
                    clear H1
                    obtain ⟨y115, hy115⟩ : ∃ y_ : List ByteArray, y_ = (([(⟨#[114]⟩ : ByteArray), (⟨#[119]⟩ : ByteArray), (⟨#[120]⟩ : ByteArray)] : List ByteArray)) := ⟨_, rfl⟩
                    replace H : (if 0 ≤ (Int.tmod x6_3 3) then (if (Int.tmod x6_3 3) < (y115.length : Int) then (oakumref23_Signs.j3 k3 a1 x5_3 x6_3 (rdOf ByteArray.empty y115 (Int.tmod x6_3 3))) else (none)) else (none)) = some r := by first | (rw [hy115]; with_reducible exact H) | (have H2_ := (Option.bind_some _ _).symm.trans H; rw [hy115]; with_reducible exact H2_) | (have H2_ := (Option.bind_some _ _).symm.trans H; with_reducible exact H2_) | with_reducible exact H | (rw [hy115]; exact H) | exact H
                    have Ny115 := Aside0.mk hy115
                    clear hy115
                    obtain ⟨ji17, hji17⟩ : ∃ j_ : Int, (Int.tmod x6_3 3) = j_ := ⟨_, rfl⟩
                    replace H : (if 0 ≤ (ji17) then (if (ji17) < (y115.length : Int) then (oakumref23_Signs.j3 k3 a1 x5_3 x6_3 (rdOf ByteArray.empty y115 (ji17))) else (none)) else (none)) = some r := by first | (rw [hji17] at H; exact H) | (simp only [hji17] at H ⊢; exact H)
                    by_cases c18 : 0 ≤ (ji17)
                    · rw [if_pos c18] at H
                      have c18b0 : decide (0 ≤ (ji17)) = true := decide_eq_true c18
                      clear c18
                      (first | rw [c18b0] | (simp only [i64_w, i32_w]; rw [c18b0]) | skip)
                      by_cases c19 : (ji17) < (y115.length : Int)
                      · rw [if_pos c19] at H
                        have c19b0 : decide ((ji17) < (y115.length : Int)) = true := decide_eq_true c19
                        clear c19
                        have H' := Aside0.mk H
                        clear H
                        go_wp2_with (first | ((with_reducible refine gate_dst (N := 28) rfl ?_); refine Kd.R_lit Kd.string _ 9 ?hg (N := 28) ?hd (xs := ([(⟨#[114]⟩ : ByteArray), (⟨#[119]⟩ : ByteArray), (⟨#[120]⟩ : ByteArray)] : List ByteArray)) (inner := [.string (⟨#[114]⟩ : ByteArray), .string (⟨#[119]⟩ : ByteArray), .string (⟨#[120]⟩ : ByteArray)]) (ok := fun _ => True) (okp := fun _ => True) ?hr ?hp (fun _ hk => hk) trivial (Below.refl _ _) (Nat.le_refl _) (by simp) ?_; (case hd => rfl); (case hg => rfl); (case hr => first | (go_simp; done) | (go_simp; rfl)); (case hp => exact (Reps.one (show Kd.M Kd.string _ _ _ (⟨#[114]⟩ : ByteArray) [.string (⟨#[114]⟩ : ByteArray)] from rfl) (Reps.one (show Kd.M Kd.string _ _ _ (⟨#[119]⟩ : ByteArray) [.string (⟨#[119]⟩ : ByteArray)] from rfl) (Reps.one (show Kd.M Kd.string _ _ _ (⟨#[120]⟩ : ByteArray) [.string (⟨#[120]⟩ : ByteArray)] from rfl) (Reps.none _ _))))); intro v116 w20 ho21 hb hg_ hnew_; clear hg_ hnew_; (first | rw [← Ny115.out] at ho21 | (simp only [Int.reduceToNat] at ho21; rw [← Ny115.out] at ho21)); have n0_ := Aside0.mk (Kd.R_lower ho21 (below_size (by repeat (first | (with_reducible first | exact HB.out | apply below_alloc | apply pw_below_drewN | apply below_drew1) | exact HB.out)))); have n1_ := Aside0.mk (below_step (by repeat (first | (with_reducible first | exact HB.out | apply below_alloc | apply pw_below_drewN | apply below_drew1) | exact HB.out)) hb); clear HB; have HO117 := n0_; have HB := n1_; clear n0_ n1_; clear hb ho21; obtain ⟨Ao22, co22, eo22⟩ := Kd.R_slice HO117.out; subst eo22; have p118 : 0 ≤ ((ji17) : Int) := of_decide_eq_true (by first | (with_reducible assumption) | assumption); have q118 : (ji17) < (y115.length : Int) := of_decide_eq_true (by first | (with_reducible assumption) | assumption); obtain ⟨ad118, e118, hx118_0⟩ := Kd.at_string (Kd.R_reads' HO117.out).2.2 (ji17) p118 q118; cases e118; replace p118 := eq_true p118; replace q118 := eq_true q118))
                        go_meet
                        case rel => exact ⟨_, (rdOf ByteArray.empty y115 (ji17)), (by first | rfl | (simp; done) | (simp only [← hji17] <;> (first | rfl | simp)) | (simp [*]; done)), H', ⟨by have := HJ2.out; have := HJ4.out; have := HK3.out; first | omega | exact Nat.le_refl _⟩, ⟨by repeat (first | (with_reducible first | exact HB.out | apply below_alloc | apply pw_below_drewN | apply below_drew1) | exact HB.out)⟩⟩
                      · rw [if_neg c19] at H
                        exact absurd H (by simp)
                    · rw [if_neg c18] at H
                      exact absurd H (by simp)
                  · replace c16 := Bool.eq_false_iff.mpr c16
                    subst c16
                    have H1 : (oakumref23_Signs.j3 k3 a1 x5_3 x6_3 (⟨#[45]⟩ : ByteArray)) = some r := by rw [if_neg (show ¬ (false = true) by decide)] at H; exact H
                    clear H
                    have H := H1
                    clear H1
                    have H' := Aside0.mk H
                    clear H
                    go_wp2
                    go_meet
                    case rel => exact ⟨_, ((⟨#[45]⟩ : ByteArray)), (by first | rfl | (simp; done) | (simp [*]; done)), H', ⟨by have := HJ2.out; have := HJ4.out; have := HK3.out; first | omega | exact Nat.le_refl _⟩, ⟨by repeat (first | (with_reducible first | exact HB.out | apply below_alloc | apply pw_below_drewN | apply below_drew1) | exact HB.out)⟩⟩
                case rest =>
                  clear HC15
                  try clear c1
                  try clear p1
                  try clear q1
                  try clear hx1
                  try clear c2
                  try clear p2
                  try clear c4
                  try clear c4b0
                  try clear c6
                  try clear p6
                  try clear c8
                  try clear c8b0
                  try clear c9
                  try clear c9b0
                  try clear c10
                  try clear p11
                  try clear q11
                  try clear hx11
                  try clear c13
                  try clear c13b0
                  try clear c16
                  try clear c18
                  try clear c18b0
                  try clear c19
                  try clear c19b0
                  try clear c21
                  try clear hx113_0
                  try clear hx118_0
                  try clear p1
                  try clear p11
                  try clear p113
                  try clear p118
                  try clear p2
                  try clear p6
                  try clear q1
                  try clear q11
                  try clear q113
                  try clear q118
                  obtain ⟨kq, x7_14, rfl, HA, HJ14, HB⟩ := hcut
                  cases kq with
                  | zero => exact absurd HA.out (by simp [oakumref23_Signs.j3])
                  | succ kj14 =>
                    have H := HA.out
                    clear HA
                    simp only [oakumref23_Signs.j3] at H
                    have HC23 := Aside0.mk H
                    clear H
                    go_upto_region 10 with (fail)
                    go_cut [42] (fun v42 wc => ∃ (kq : Nat) (x42_22 : Bool), v42 = .bool x42_22 ∧ Aside0 (oakumref23_Signs.j4 kq a1 x5_3 x6_3 x7_14 x42_22 = some r) ∧ Aside0 (kq ≤ kj14) ∧ Aside0 (Below w.heap.size w wc))
                    case first =>
                      have H := HC23.out
                      clear HC23
                      by_cases c24 : (Int.tmod x6_3 3) = 2
                      · rw [if_pos c24] at H
                        have c24b0 : ((Int.tmod x6_3 3) == 2) = true := beq_iff_eq.mpr c24
                        have c24b1 : ((Int.tmod x6_3 3) != 2) = false := bne_eq_false_iff_eq.mpr c24
                        clear c24
                        (first | rw [c24b0] | (simp only [i64_w, i32_w]; rw [c24b0]) | skip)
                        replace H := Option.bind_eq_some_iff.mp H
                        obtain ⟨t119, A250, H⟩ := H
                        replace H : (oakumref23_Signs.j4 kj14 a1 x5_3 x6_3 x7_14 t119) = some r := H
                        have A25 := Aside0.mk A250
                        clear A250
                        have H' := Aside0.mk H
                        clear H
                        go_wp2_with (first | (go_at_call 21; (with_reducible refine (oakumref23_bit.calls kj14 a1 (wrap64 (11 - (wrap64 (Int.tdiv x6_3 3)))) t119 _ A25.out).mono ?_); rintro e w' ⟨rfl, ⟨nd, rfl⟩⟩))
                        go_meet
                        case rel => exact ⟨_, (t119), (by first | rfl | (simp; done) | (simp [*]; done)), H', ⟨by have := HJ2.out; have := HJ4.out; have := HK3.out; have := HJ14.out; first | omega | exact Nat.le_refl _⟩, ⟨by repeat (first | (with_reducible first | exact HB.out | apply below_alloc | apply pw_below_drewN | apply below_drew1) | exact HB.out)⟩⟩
                      · rw [if_neg c24] at H
                        have c24b0 : ((Int.tmod x6_3 3) == 2) = false := beq_eq_false_iff_ne.mpr c24
                        have c24b1 : ((Int.tmod x6_3 3) != 2) = true := bne_iff_ne.mpr c24
                        (first | rw [c24b0] | (simp only [i64_w, i32_w]; rw [c24b0]) | skip)
                        have H' := Aside0.mk H
                        clear H
                        go_wp2
                        go_meet
                        case rel => exact ⟨_, (false), (by first | rfl | (simp; done) | (simp [*]; done)), H', ⟨by have := HJ2.out; have := HJ4.out; have := HK3.out; have := HJ14.out; first | omega | exact Nat.le_refl _⟩, ⟨by repeat (first | (with_reducible first | exact HB.out | apply below_alloc | apply pw_below_drewN | apply below_drew1) | exact HB.out)⟩⟩
                    case rest =>
                      clear HC23
                      try clear c1
                      try clear p1
                      try clear q1
                      try clear hx1
                      try clear c2
                      try clear p2
                      try clear c4
                      try clear c4b0
                      try clear c6
                      try clear p6
                      try clear c8
                      try clear c8b0
                      try clear c9
                      try clear c9b0
                      try clear c10
                      try clear p11
                      try clear q11
                      try clear hx11
                      try clear c13
                      try clear c13b0
                      try clear c16
                      try clear c18
                      try clear c18b0
                      try clear c19
                      try clear c19b0
                      try clear c21
                      try clear c24
                      try clear c24b0
                      try clear c24b1
                      try clear hx113_0
                      try clear hx118_0
                      try clear p1
                      try clear p11
                      try clear p113
                      try clear p118
                      try clear p2
                      try clear p6
                      try clear q1
                      try clear q11
                      try clear q113
                      try clear q118
                      obtain ⟨kq, x42_22, rfl, HA, HJ22, HB⟩ := hcut
                      cases kq with
                      | zero => exact absurd HA.out (by simp [oakumref23_Signs.j4])
                      | succ kj22 =>
                        have H := HA.out
                        clear HA
                        simp only [oakumref23_Signs.j4] at H
                        by_cases c26 : x42_22 = true
                        · subst c26
                          have H1 : ((some (([(⟨#[115]⟩ : ByteArray), (⟨#[115]⟩ : ByteArray), (⟨#[116]⟩ : ByteArray), (⟨#[83]⟩ : ByteArray), (⟨#[83]⟩ : ByteArray), (⟨#[84]⟩ : ByteArray)] : List ByteArray) : List ByteArray)).bind fun y120 => (if x7_14.toList = ([120] : List UInt8) then (if 0 ≤ (wrap64 (Int.tdiv x6_3 3)) then (if (wrap64 (Int.tdiv x6_3 3)) < (y120.length : Int) then (if x5_3.size + (rdOf ByteArray.empty y120 (wrap64 (Int.tdiv x6_3 3))).size ≤ 9223372036854775807 then (oakumref23_Signs.l0 kj22 a1 (x5_3 ++ (rdOf ByteArray.empty y120 (wrap64 (Int.tdiv x6_3 3)))) (wrap64 (x6_3 + 1))) else (none)) else (none)) else (none)) else (if 0 ≤ (wrap64 (3 + (wrap64 (Int.tdiv x6_3 3)))) then (if (wrap64 (3 + (wrap64 (Int.tdiv x6_3 3)))) < (y120.length : Int) then (if x5_3.size + (rdOf ByteArray.empty y120 (wrap64 (3 + (wrap64 (Int.tdiv x6_3 3))))).size ≤ 9223372036854775807 then (oakumref23_Signs.l0 kj22 a1 (x5_3 ++ (rdOf ByteArray.empty y120 (wrap64 (3 + (wrap64 (Int.tdiv x6_3 3)))))) (wrap64 (x6_3 + 1))) else (none)) else (none)) else (none)))) = some r := by rw [if_pos rfl] at H; exact H
                          clear H
                          have H := H1
                          clear H1
                          obtain ⟨y120, hy120⟩ : ∃ y_ : List ByteArray, y_ = (([(⟨#[115]⟩ : ByteArray), (⟨#[115]⟩ : ByteArray), (⟨#[116]⟩ : ByteArray), (⟨#[83]⟩ : ByteArray), (⟨#[83]⟩ : ByteArray), (⟨#[84]⟩ : ByteArray)] : List ByteArray)) := ⟨_, rfl⟩
                          replace H : (if x7_14.toList = ([120] : List UInt8) then (if 0 ≤ (wrap64 (Int.tdiv x6_3 3)) then (if (wrap64 (Int.tdiv x6_3 3)) < (y120.length : Int) then (if x5_3.size + (rdOf ByteArray.empty y120 (wrap64 (Int.tdiv x6_3 3))).size ≤ 9223372036854775807 then (oakumref23_Signs.l0 kj22 a1 (x5_3 ++ (rdOf ByteArray.empty y120 (wrap64 (Int.tdiv x6_3 3)))) (wrap64 (x6_3 + 1))) else (none)) else (none)) else (none)) else (if 0 ≤ (wrap64 (3 + (wrap64 (Int.tdiv x6_3 3)))) then (if (wrap64 (3 + (wrap64 (Int.tdiv x6_3 3)))) < (y120.length : Int) then (if x5_3.size + (rdOf ByteArray.empty y120 (wrap64 (3 + (wrap64 (Int.tdiv x6_3 3))))).size ≤ 9223372036854775807 then (oakumref23_Signs.l0 kj22 a1 (x5_3 ++ (rdOf ByteArray.empty y120 (wrap64 (3 + (wrap64 (Int.tdiv x6_3 3)))))) (wrap64 (x6_3 + 1))) else (none)) else (none)) else (none))) = some r := by first | (rw [hy120]; with_reducible exact H) | (have H2_ := (Option.bind_some _ _).symm.trans H; rw [hy120]; with_reducible exact H2_) | (have H2_ := (Option.bind_some _ _).symm.trans H; with_reducible exact H2_) | with_reducible exact H | (rw [hy120]; exact H) | exact H
                          have Ny120 := Aside0.mk hy120
                          clear hy120
                          by_cases c27 : x7_14.toList = ([120] : List UInt8)
                          · rw [if_pos c27] at H
                            have c27b0 : (x7_14.toList == ([120] : List UInt8)) = true := beq_iff_eq.mpr c27
                            have c27b1 : (x7_14.toList != ([120] : List UInt8)) = false := bne_eq_false_iff_eq.mpr c27
                            clear c27
                            obtain ⟨ji28, hji28⟩ : ∃ j_ : Int, (wrap64 (Int.tdiv x6_3 3)) = j_ := ⟨_, rfl⟩
                            replace H : (if 0 ≤ (ji28) then (if (ji28) < (y120.length : Int) then (if x5_3.size + (rdOf ByteArray.empty y120 (ji28)).size ≤ 9223372036854775807 then (oakumref23_Signs.l0 kj22 a1 (x5_3 ++ (rdOf ByteArray.empty y120 (ji28))) (wrap64 (x6_3 + 1))) else (none)) else (none)) else (none)) = some r := by first | (rw [hji28] at H; exact H) | (simp only [hji28] at H ⊢; exact H)
                            have hji28w : (IntKind.i64.wrap (Int.tdiv x6_3 3)) = ji28 := (i64_w _).trans hji28
                            by_cases c29 : 0 ≤ (ji28)
                            · rw [if_pos c29] at H
                              have c29b0 : decide (0 ≤ (ji28)) = true := decide_eq_true c29
                              clear c29
                              by_cases c30 : (ji28) < (y120.length : Int)
                              · rw [if_pos c30] at H
                                have c30b0 : decide ((ji28) < (y120.length : Int)) = true := decide_eq_true c30
                                clear c30
                                by_cases c31 : x5_3.size + (rdOf ByteArray.empty y120 (ji28)).size ≤ 9223372036854775807
                                · rw [if_pos c31] at H
                                  have c31b0 := eq_true c31
                                  have c31b1 : decide (x5_3.size + (rdOf ByteArray.empty y120 (ji28)).size ≤ 9223372036854775807) = true := decide_eq_true c31
                                  try have c31b2 : (9223372036854775807 < x5_3.size + (rdOf ByteArray.empty y120 (ji28)).size) = False := eq_false (Nat.not_lt.2 c31)
                                  have H' := Aside0.mk H
                                  clear H
                                  go_wp2_with (first | ((with_reducible refine gate_dst (N := 43) rfl ?_); refine Kd.R_lit Kd.string _ 9 ?hg (N := 43) ?hd (xs := ([(⟨#[115]⟩ : ByteArray), (⟨#[115]⟩ : ByteArray), (⟨#[116]⟩ : ByteArray), (⟨#[83]⟩ : ByteArray), (⟨#[83]⟩ : ByteArray), (⟨#[84]⟩ : ByteArray)] : List ByteArray)) (inner := [.string (⟨#[115]⟩ : ByteArray), .string (⟨#[115]⟩ : ByteArray), .string (⟨#[116]⟩ : ByteArray), .string (⟨#[83]⟩ : ByteArray), .string (⟨#[83]⟩ : ByteArray), .string (⟨#[84]⟩ : ByteArray)]) (ok := fun _ => True) (okp := fun _ => True) ?hr ?hp (fun _ hk => hk) trivial (Below.refl _ _) (Nat.le_refl _) (by simp) ?_; (case hd => rfl); (case hg => rfl); (case hr => first | (go_simp; done) | (go_simp; rfl)); (case hp => exact (Reps.one (show Kd.M Kd.string _ _ _ (⟨#[115]⟩ : ByteArray) [.string (⟨#[115]⟩ : ByteArray)] from rfl) (Reps.one (show Kd.M Kd.string _ _ _ (⟨#[115]⟩ : ByteArray) [.string (⟨#[115]⟩ : ByteArray)] from rfl) (Reps.one (show Kd.M Kd.string _ _ _ (⟨#[116]⟩ : ByteArray) [.string (⟨#[116]⟩ : ByteArray)] from rfl) (Reps.one (show Kd.M Kd.string _ _ _ (⟨#[83]⟩ : ByteArray) [.string (⟨#[83]⟩ : ByteArray)] from rfl) (Reps.one (show Kd.M Kd.string _ _ _ (⟨#[83]⟩ : ByteArray) [.string (⟨#[83]⟩ : ByteArray)] from rfl) (Reps.one (show Kd.M Kd.string _ _ _ (⟨#[84]⟩ : ByteArray) [.string (⟨#[84]⟩ : ByteArray)] from rfl) (Reps.none _ _)))))))); intro v121 w32 ho33 hb hg_ hnew_; clear hg_ hnew_; (first | rw [← Ny120.out] at ho33 | (simp only [Int.reduceToNat] at ho33; rw [← Ny120.out] at ho33)); have n0_ := Aside0.mk (Kd.R_lower ho33 (below_size (by repeat (first | (with_reducible first | exact HB.out | apply below_alloc | apply pw_below_drewN | apply below_drew1) | exact HB.out)))); have n1_ := Aside0.mk (below_step (by repeat (first | (with_reducible first | exact HB.out | apply below_alloc | apply pw_below_drewN | apply below_drew1) | exact HB.out)) hb); clear HB; have HO122 := n0_; have HB := n1_; clear n0_ n1_; clear hb ho33; obtain ⟨Ao34, co34, eo34⟩ := Kd.R_slice HO122.out; subst eo34; have p123 : 0 ≤ ((ji28) : Int) := of_decide_eq_true (by first | (with_reducible assumption) | assumption); have q123 : (ji28) < (y120.length : Int) := of_decide_eq_true (by first | (with_reducible assumption) | assumption); obtain ⟨ad123, e123, hx123_0⟩ := Kd.at_string (Kd.R_reads' HO122.out).2.2 (ji28) p123 q123; cases e123; replace p123 := eq_true p123; replace q123 := eq_true q123))
                                  go_roundg kj22
                                  case measure => have := HJ2.out; have := HJ4.out; have := HK3.out; have := HJ14.out; have := HJ22.out; omega
                                  case rel => exact ⟨(x5_3 ++ (rdOf ByteArray.empty y120 (ji28))), (wrap64 (x6_3 + 1)), (by first | rfl | (simp; done) | (simp only [← hji28] <;> (first | rfl | simp)) | (simp [*]; done)), (by first | rfl | (simp; done) | (simp [*]; done)), H', ⟨by have := HJ2.out; have := HJ4.out; have := HK3.out; have := HJ14.out; have := HJ22.out; omega⟩, ⟨by repeat (first | (with_reducible first | exact HB.out | apply below_alloc | apply pw_below_drewN | apply below_drew1) | exact HB.out)⟩⟩
                                · rw [if_neg c31] at H
                                  exact absurd H (by simp)
                              · rw [if_neg c30] at H
                                exact absurd H (by simp)
                            · rw [if_neg c29] at H
                              exact absurd H (by simp)
                          · rw [if_neg c27] at H
                            have c27b0 : (x7_14.toList == ([120] : List UInt8)) = false := beq_eq_false_iff_ne.mpr c27
                            have c27b1 : (x7_14.toList != ([120] : List UInt8)) = true := bne_iff_ne.mpr c27
                            obtain ⟨ji35, hji35⟩ : ∃ j_ : Int, (wrap64 (3 + (wrap64 (Int.tdiv x6_3 3)))) = j_ := ⟨_, rfl⟩
                            replace H : (if 0 ≤ (ji35) then (if (ji35) < (y120.length : Int) then (if x5_3.size + (rdOf ByteArray.empty y120 (ji35)).size ≤ 9223372036854775807 then (oakumref23_Signs.l0 kj22 a1 (x5_3 ++ (rdOf ByteArray.empty y120 (ji35))) (wrap64 (x6_3 + 1))) else (none)) else (none)) else (none)) = some r := by first | (rw [hji35] at H; exact H) | (simp only [hji35] at H ⊢; exact H)
                            have hji35w : (IntKind.i64.wrap (3 + (wrap64 (Int.tdiv x6_3 3)))) = ji35 := (i64_w _).trans hji35
                            by_cases c36 : 0 ≤ (ji35)
                            · rw [if_pos c36] at H
                              have c36b0 : decide (0 ≤ (ji35)) = true := decide_eq_true c36
                              clear c36
                              by_cases c37 : (ji35) < (y120.length : Int)
                              · rw [if_pos c37] at H
                                have c37b0 : decide ((ji35) < (y120.length : Int)) = true := decide_eq_true c37
                                clear c37
                                by_cases c38 : x5_3.size + (rdOf ByteArray.empty y120 (ji35)).size ≤ 9223372036854775807
                                · rw [if_pos c38] at H
                                  have c38b0 := eq_true c38
                                  have c38b1 : decide (x5_3.size + (rdOf ByteArray.empty y120 (ji35)).size ≤ 9223372036854775807) = true := decide_eq_true c38
                                  try have c38b2 : (9223372036854775807 < x5_3.size + (rdOf ByteArray.empty y120 (ji35)).size) = False := eq_false (Nat.not_lt.2 c38)
                                  have H' := Aside0.mk H
                                  clear H
                                  go_wp2_with (first | ((with_reducible refine gate_dst (N := 43) rfl ?_); refine Kd.R_lit Kd.string _ 9 ?hg (N := 43) ?hd (xs := ([(⟨#[115]⟩ : ByteArray), (⟨#[115]⟩ : ByteArray), (⟨#[116]⟩ : ByteArray), (⟨#[83]⟩ : ByteArray), (⟨#[83]⟩ : ByteArray), (⟨#[84]⟩ : ByteArray)] : List ByteArray)) (inner := [.string (⟨#[115]⟩ : ByteArray), .string (⟨#[115]⟩ : ByteArray), .string (⟨#[116]⟩ : ByteArray), .string (⟨#[83]⟩ : ByteArray), .string (⟨#[83]⟩ : ByteArray), .string (⟨#[84]⟩ : ByteArray)]) (ok := fun _ => True) (okp := fun _ => True) ?hr ?hp (fun _ hk => hk) trivial (Below.refl _ _) (Nat.le_refl _) (by simp) ?_; (case hd => rfl); (case hg => rfl); (case hr => first | (go_simp; done) | (go_simp; rfl)); (case hp => exact (Reps.one (show Kd.M Kd.string _ _ _ (⟨#[115]⟩ : ByteArray) [.string (⟨#[115]⟩ : ByteArray)] from rfl) (Reps.one (show Kd.M Kd.string _ _ _ (⟨#[115]⟩ : ByteArray) [.string (⟨#[115]⟩ : ByteArray)] from rfl) (Reps.one (show Kd.M Kd.string _ _ _ (⟨#[116]⟩ : ByteArray) [.string (⟨#[116]⟩ : ByteArray)] from rfl) (Reps.one (show Kd.M Kd.string _ _ _ (⟨#[83]⟩ : ByteArray) [.string (⟨#[83]⟩ : ByteArray)] from rfl) (Reps.one (show Kd.M Kd.string _ _ _ (⟨#[83]⟩ : ByteArray) [.string (⟨#[83]⟩ : ByteArray)] from rfl) (Reps.one (show Kd.M Kd.string _ _ _ (⟨#[84]⟩ : ByteArray) [.string (⟨#[84]⟩ : ByteArray)] from rfl) (Reps.none _ _)))))))); intro v121 w39 ho40 hb hg_ hnew_; clear hg_ hnew_; (first | rw [← Ny120.out] at ho40 | (simp only [Int.reduceToNat] at ho40; rw [← Ny120.out] at ho40)); have n0_ := Aside0.mk (Kd.R_lower ho40 (below_size (by repeat (first | (with_reducible first | exact HB.out | apply below_alloc | apply pw_below_drewN | apply below_drew1) | exact HB.out)))); have n1_ := Aside0.mk (below_step (by repeat (first | (with_reducible first | exact HB.out | apply below_alloc | apply pw_below_drewN | apply below_drew1) | exact HB.out)) hb); clear HB; have HO122 := n0_; have HB := n1_; clear n0_ n1_; clear hb ho40; obtain ⟨Ao41, co41, eo41⟩ := Kd.R_slice HO122.out; subst eo41; have p124 : 0 ≤ ((ji35) : Int) := of_decide_eq_true (by first | (with_reducible assumption) | assumption); have q124 : (ji35) < (y120.length : Int) := of_decide_eq_true (by first | (with_reducible assumption) | assumption); obtain ⟨ad124, e124, hx124_0⟩ := Kd.at_string (Kd.R_reads' HO122.out).2.2 (ji35) p124 q124; cases e124; replace p124 := eq_true p124; replace q124 := eq_true q124))
                                  go_roundg kj22
                                  case measure => have := HJ2.out; have := HJ4.out; have := HK3.out; have := HJ14.out; have := HJ22.out; omega
                                  case rel => exact ⟨(x5_3 ++ (rdOf ByteArray.empty y120 (ji35))), (wrap64 (x6_3 + 1)), (by first | rfl | (simp; done) | (simp only [← hji35] <;> (first | rfl | simp)) | (simp [*]; done)), (by first | rfl | (simp; done) | (simp [*]; done)), H', ⟨by have := HJ2.out; have := HJ4.out; have := HK3.out; have := HJ14.out; have := HJ22.out; omega⟩, ⟨by repeat (first | (with_reducible first | exact HB.out | apply below_alloc | apply pw_below_drewN | apply below_drew1) | exact HB.out)⟩⟩
                                · rw [if_neg c38] at H
                                  exact absurd H (by simp)
                              · rw [if_neg c37] at H
                                exact absurd H (by simp)
                            · rw [if_neg c36] at H
                              exact absurd H (by simp)
                        · replace c26 := Bool.eq_false_iff.mpr c26
                          subst c26
                          have H1 : (if x5_3.size + x7_14.size ≤ 9223372036854775807 then (oakumref23_Signs.l0 kj22 a1 (x5_3 ++ x7_14) (wrap64 (x6_3 + 1))) else (none)) = some r := by rw [if_neg (show ¬ (false = true) by decide)] at H; exact H
                          clear H
                          have H := H1
                          clear H1
                          by_cases c42 : x5_3.size + x7_14.size ≤ 9223372036854775807
                          · rw [if_pos c42] at H
                            have c42b0 := eq_true c42
                            have c42b1 : decide (x5_3.size + x7_14.size ≤ 9223372036854775807) = true := decide_eq_true c42
                            try have c42b2 : (9223372036854775807 < x5_3.size + x7_14.size) = False := eq_false (Nat.not_lt.2 c42)
                            have H' := Aside0.mk H
                            clear H
                            go_wp2
                            go_roundg kj22
                            case measure => have := HJ2.out; have := HJ4.out; have := HK3.out; have := HJ14.out; have := HJ22.out; omega
                            case rel => exact ⟨(x5_3 ++ x7_14), (wrap64 (x6_3 + 1)), (by first | rfl | (simp; done) | (simp [*]; done)), (by first | rfl | (simp; done) | (simp [*]; done)), H', ⟨by have := HJ2.out; have := HJ4.out; have := HK3.out; have := HJ14.out; have := HJ22.out; omega⟩, ⟨by repeat (first | (with_reducible first | exact HB.out | apply below_alloc | apply pw_below_drewN | apply below_drew1) | exact HB.out)⟩⟩
                          · rw [if_neg c42] at H
                            exact absurd H (by simp)
              · rw [if_neg c13] at H
                have c13b0 : decide (x6_3 < 9) = false := decide_eq_false c13
                clear c13
                obtain rfl := Option.some.inj H
                go_wp2
                go_ret
                exact ⟨by first | rfl | (simp [errW_none, errW_some] <;> rfl) | (simp [*, errW_none, errW_some] <;> rfl), by repeat (first | (with_reducible first | exact HB.out | apply below_alloc | apply pw_below_drewN | apply below_drew1) | exact HB.out)⟩

-- NOT PRINTED: function 3 (oakumlaw23_ListSigns)

end Go.Proofs.Ytnigmpkflmanoaa.PListSigns
