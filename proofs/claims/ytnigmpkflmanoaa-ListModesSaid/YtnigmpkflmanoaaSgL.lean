/- ListSigns: the signs of any kind and mode are the document's, are read again, and unlike kinds and modes have unlike signs. For every input. -/
import Derived.Test.YtnigmpkflmanoaaSgM
import Derived.Test.YtnigmpkflmanoaaSgR
namespace Go.Proofs.Ytnigmpkflmanoaa.Sg
open Go.RowKit Go.Proofs.YtnigmpkflmanoaaW.PrintWords Go.Proofs.YtnigmpkflmanoaaW.PrintLast Go.Proofs.YtnigmpkflmanoaaW.PrintMore
open Go.Proofs.Ytnigmpkflmanoaa.Sig
theorem kidx_sgl (k m : Int) (h : 1 ≤ k ∧ k ≤ 7) : kidx (sgl k m) = k := by
  rcases kc_of k h with rfl | rfl | rfl | rfl | rfl | rfl | rfl <;> rfl
theorem kidx_bad (k m : Int) (h : ¬ (1 ≤ k ∧ k ≤ 7)) : kidx (sgl k m) = 0 := by
  unfold kidx sgl
  rw [kc_out k h]
  rfl
theorem dec_tail (k m : Int) : dec (sgl k m).tail = nn m := dec_body _ (nn_lt m)
theorem sgl_nn (k m : Int) : sgl k ((nn m : Nat) : Int) = sgl k m := by unfold sgl; rw [nn_nat _ (nn_lt m)]
theorem good_sgl (k m : Int) (h : 1 ≤ k ∧ k ≤ 7) : good (sgl k m) = true := by
  refine decide_eq_true ⟨sgl_len k m, ?_, ?_⟩
  · rw [kidx_sgl k m h]; exact h.1
  · rw [kidx_sgl k m h, dec_tail, sgl_nn]
theorem good_bad (k m : Int) (h : ¬ (1 ≤ k ∧ k ≤ 7)) : good (sgl k m) = false :=
  decide_eq_false fun hh => by have := hh.2.1; rw [kidx_bad k m h] at this; omega
theorem mode_sgl (k m : Int) (h : 1 ≤ k ∧ k ≤ 7) (w : World) :
    Calls Try.prog 11 #[.string ⟨(sgl k m).toArray⟩] w fun e w' => e = .returned (.tuple #[.int .i64 k, .int .i64 (nn m : Nat), .int .u8 0]) ∧ Below w.heap.size w w' := by
  refine (mode_any _ w).mono ?_
  rintro e w1 ⟨rfl, hb⟩
  refine ⟨?_, hb⟩
  show Ending.returned (.tuple #[.int .i64 (modeK (sgl k m)), .int .i64 (modeM (sgl k m)), .int .u8 (modeE (sgl k m))]) = _
  unfold modeK modeM modeE
  rw [good_sgl k m h, kidx_sgl k m h, dec_tail]
  rfl
theorem mode_bad (k m : Int) (h : ¬ (1 ≤ k ∧ k ≤ 7)) (w : World) :
    Calls Try.prog 11 #[.string ⟨(sgl k m).toArray⟩] w fun e w' => e = .returned (.tuple #[.int .i64 0, .int .i64 0, .int .u8 15]) ∧ Below w.heap.size w w' := by
  refine (mode_any _ w).mono ?_
  rintro e w1 ⟨rfl, hb⟩
  refine ⟨?_, hb⟩
  show Ending.returned (.tuple #[.int .i64 (modeK (sgl k m)), .int .i64 (modeM (sgl k m)), .int .u8 (modeE (sgl k m))]) = _
  unfold modeK modeM modeE
  rw [good_bad k m h]
  rfl
theorem sgl_dir : sgl 6 1023 = [100, 114, 119, 120, 114, 119, 120, 114, 119, 116] := by decide
theorem alive_any (w : World) :
    Calls Try.prog 8 #[] w fun e w' => e = .returned (.bool true) ∧ Below w.heap.size w w' := by
  have hm : ∀ W : World, Calls Try.prog 11 #[.string ⟨#[100, 114, 119, 120, 114, 119, 120, 114, 119, 116]⟩] W fun e w' => e = .returned (.tuple #[.int .i64 6, .int .i64 1023, .int .u8 0]) ∧ Below W.heap.size W w' := by
    intro W
    have h := mode_sgl 6 1023 ⟨by decide, by decide⟩ W
    rw [sgl_dir] at h
    exact h
  have hs : ∀ W : World, Calls Try.prog 9 #[.int .i64 6, .int .i64 1023] W fun e w' => e = .returned (.string ⟨#[100, 114, 119, 120, 114, 119, 120, 114, 119, 116]⟩) ∧ Below W.heap.size W w' := by
    intro W
    have h := signs_any 6 1023 W
    rw [sgl_dir] at h
    exact h
  have HM := Lib.hid hm
  have HS := Lib.hid hs
  clear hm hs
  go_enter Try.func8, Try.ntmps8
  go_wp2_with fail
  refine (HM.out _).mono ?_
  rintro e w1 ⟨rfl, hb1⟩
  go_wp2_with fail
  refine (HS.out _).mono ?_
  rintro e w2 ⟨rfl, hb2⟩
  go_wp2
  go_ret
  exact ⟨rfl, below_then hb1 hb1.size hb2⟩

theorem q_eq (k m o r : Int) : (sgl k m == sgl o r) = (decide (kn k = kn o) && (sgl 1 m == sgl 1 r)) := by
  rw [Bool.eq_iff_iff, beq_iff_eq, sgl_eq, Bool.and_eq_true, decide_eq_true_eq, beq_iff_eq, sgl_eq]
  exact ⟨fun h => ⟨h.1, rfl, h.2⟩, fun h => ⟨h.1, h.2.2⟩⟩
set_option maxRecDepth 100000 in
set_option maxHeartbeats 1600000 in
theorem law_vv (kind mode other more : Int) (hk : 1 ≤ kind ∧ kind ≤ 7) (ho : 1 ≤ other ∧ other ≤ 7) (w : World) :
    Calls Try.prog 3 #[.int .i64 kind, .int .i64 mode, .int .i64 other, .int .i64 more] w fun e w' => e = .returned (.bool true) ∧ Below w.heap.size w w' := by
  have MODE := Lib.hid (fun W : World => mode_sgl kind mode hk W)
  have q := q_eq kind mode other more
  have ek : kn kind = kind := by unfold kn; rw [if_pos hk]
  have eo : kn other = other := by unfold kn; rw [if_pos ho]
  rw [ek, eo] at q
  have hl : (sgl kind mode).length = 10 := sgl_len kind mode
  have hn : (nn mode : Int) < 4096 := by have := nn_lt mode; omega
  have hnn := sgl_nn 1 mode
  have hz : (kind == 0) = false := by rw [beq_eq_false_iff_ne]; omega
  have hkk : ((kind == kind) : Bool) = true := beq_self_eq_true kind
  obtain ⟨hk1, hk2⟩ := hk
  obtain ⟨ho1, ho2⟩ := ho
  clear ek eo
  cases h2 : (kind == other) with
  | true =>
    obtain rfl : kind = other := beq_iff_eq.1 h2
    rw [decide_eq_true rfl, Bool.true_and] at q
    clear h2
    cases h3 : (sgl 1 mode == sgl 1 more) with
    | true =>
      rw [h3] at q
      go_enter Try.func3, Try.ntmps3
      go_wp2_with (first | (go_at_call 8; refine (alive_any _).mono ?_; rintro e w1 ⟨rfl, hb⟩; have hB := hb; clear hb) | (go_at_call 9; refine (signs_any _ _ _).mono ?_; rintro e w1 ⟨rfl, hb⟩; replace hB := below_then hB hB.size hb; clear hb) | (go_at_call 10; refine (ref_signs _ _ _).mono ?_; rintro e w1 ⟨rfl, hb⟩; replace hB := below_then hB hB.size hb; clear hb) | (go_at_call 11; refine (MODE.out _).mono ?_; rintro e w1 ⟨rfl, hb⟩; replace hB := below_then hB hB.size hb; clear hb))
      go_ret
      exact ⟨rfl, hB⟩
    | false =>
      rw [h3] at q
      go_enter Try.func3, Try.ntmps3
      go_wp2_with (first | (go_at_call 8; refine (alive_any _).mono ?_; rintro e w1 ⟨rfl, hb⟩; have hB := hb; clear hb) | (go_at_call 9; refine (signs_any _ _ _).mono ?_; rintro e w1 ⟨rfl, hb⟩; replace hB := below_then hB hB.size hb; clear hb) | (go_at_call 10; refine (ref_signs _ _ _).mono ?_; rintro e w1 ⟨rfl, hb⟩; replace hB := below_then hB hB.size hb; clear hb) | (go_at_call 11; refine (MODE.out _).mono ?_; rintro e w1 ⟨rfl, hb⟩; replace hB := below_then hB hB.size hb; clear hb))
      go_ret
      exact ⟨rfl, hB⟩
  | false =>
    rw [decide_eq_false (beq_eq_false_iff_ne.1 h2), Bool.false_and] at q
    go_enter Try.func3, Try.ntmps3
    go_wp2_with (first | (go_at_call 8; refine (alive_any _).mono ?_; rintro e w1 ⟨rfl, hb⟩; have hB := hb; clear hb) | (go_at_call 9; refine (signs_any _ _ _).mono ?_; rintro e w1 ⟨rfl, hb⟩; replace hB := below_then hB hB.size hb; clear hb) | (go_at_call 10; refine (ref_signs _ _ _).mono ?_; rintro e w1 ⟨rfl, hb⟩; replace hB := below_then hB hB.size hb; clear hb) | (go_at_call 11; refine (MODE.out _).mono ?_; rintro e w1 ⟨rfl, hb⟩; replace hB := below_then hB hB.size hb; clear hb))
    go_ret
    exact ⟨rfl, hB⟩
set_option maxRecDepth 100000 in
set_option maxHeartbeats 1600000 in
theorem law_vi (kind mode other more : Int) (hk : 1 ≤ kind ∧ kind ≤ 7) (ho : ¬ (1 ≤ other ∧ other ≤ 7)) (w : World) :
    Calls Try.prog 3 #[.int .i64 kind, .int .i64 mode, .int .i64 other, .int .i64 more] w fun e w' => e = .returned (.bool true) ∧ Below w.heap.size w w' := by
  have MODE := Lib.hid (fun W : World => mode_sgl kind mode hk W)
  have q := q_eq kind mode other more
  have ek : kn kind = kind := by unfold kn; rw [if_pos hk]
  have eo : kn other = 0 := by unfold kn; rw [if_neg ho]
  rw [ek, eo] at q
  have hl : (sgl kind mode).length = 10 := sgl_len kind mode
  have hn : (nn mode : Int) < 4096 := by have := nn_lt mode; omega
  have hnn := sgl_nn 1 mode
  have hz : (kind == 0) = false := by rw [beq_eq_false_iff_ne]; omega
  have hkk : ((kind == kind) : Bool) = true := beq_self_eq_true kind
  obtain ⟨hk1, hk2⟩ := hk
  rw [decide_eq_false (by omega), Bool.false_and] at q
  clear ek eo
  by_cases ho1 : other < 1
  · clear ho
    go_enter Try.func3, Try.ntmps3
    go_wp2_with (first | (go_at_call 8; refine (alive_any _).mono ?_; rintro e w1 ⟨rfl, hb⟩; have hB := hb; clear hb) | (go_at_call 9; refine (signs_any _ _ _).mono ?_; rintro e w1 ⟨rfl, hb⟩; replace hB := below_then hB hB.size hb; clear hb) | (go_at_call 10; refine (ref_signs _ _ _).mono ?_; rintro e w1 ⟨rfl, hb⟩; replace hB := below_then hB hB.size hb; clear hb) | (go_at_call 11; refine (MODE.out _).mono ?_; rintro e w1 ⟨rfl, hb⟩; replace hB := below_then hB hB.size hb; clear hb))
    go_ret
    exact ⟨rfl, hB⟩
  · have ho2 : 7 < other := by omega
    clear ho
    go_enter Try.func3, Try.ntmps3
    go_wp2_with (first | (go_at_call 8; refine (alive_any _).mono ?_; rintro e w1 ⟨rfl, hb⟩; have hB := hb; clear hb) | (go_at_call 9; refine (signs_any _ _ _).mono ?_; rintro e w1 ⟨rfl, hb⟩; replace hB := below_then hB hB.size hb; clear hb) | (go_at_call 10; refine (ref_signs _ _ _).mono ?_; rintro e w1 ⟨rfl, hb⟩; replace hB := below_then hB hB.size hb; clear hb) | (go_at_call 11; refine (MODE.out _).mono ?_; rintro e w1 ⟨rfl, hb⟩; replace hB := below_then hB hB.size hb; clear hb))
    go_ret
    exact ⟨rfl, hB⟩
set_option maxRecDepth 100000 in
set_option maxHeartbeats 1600000 in
theorem law_iv (kind mode other more : Int) (hk : ¬ (1 ≤ kind ∧ kind ≤ 7)) (ho : 1 ≤ other ∧ other ≤ 7) (w : World) :
    Calls Try.prog 3 #[.int .i64 kind, .int .i64 mode, .int .i64 other, .int .i64 more] w fun e w' => e = .returned (.bool true) ∧ Below w.heap.size w w' := by
  have MODE := Lib.hid (fun W : World => mode_bad kind mode hk W)
  have q := q_eq kind mode other more
  have ek : kn kind = 0 := by unfold kn; rw [if_neg hk]
  have eo : kn other = other := by unfold kn; rw [if_pos ho]
  rw [ek, eo] at q
  have hl : (sgl kind mode).length = 10 := sgl_len kind mode
  have hn : (nn mode : Int) < 4096 := by have := nn_lt mode; omega
  have hnn := sgl_nn 1 mode
  have hz : ((0 : Int) == other) = false := by rw [beq_eq_false_iff_ne]; omega
  obtain ⟨ho1, ho2⟩ := ho
  rw [decide_eq_false (by omega), Bool.false_and] at q
  clear ek eo
  by_cases hk1 : kind < 1
  · clear hk
    go_enter Try.func3, Try.ntmps3
    go_wp2_with (first | (go_at_call 8; refine (alive_any _).mono ?_; rintro e w1 ⟨rfl, hb⟩; have hB := hb; clear hb) | (go_at_call 9; refine (signs_any _ _ _).mono ?_; rintro e w1 ⟨rfl, hb⟩; replace hB := below_then hB hB.size hb; clear hb) | (go_at_call 10; refine (ref_signs _ _ _).mono ?_; rintro e w1 ⟨rfl, hb⟩; replace hB := below_then hB hB.size hb; clear hb) | (go_at_call 11; refine (MODE.out _).mono ?_; rintro e w1 ⟨rfl, hb⟩; replace hB := below_then hB hB.size hb; clear hb))
    go_ret
    exact ⟨rfl, hB⟩
  · have hk2 : 7 < kind := by omega
    clear hk
    go_enter Try.func3, Try.ntmps3
    go_wp2_with (first | (go_at_call 8; refine (alive_any _).mono ?_; rintro e w1 ⟨rfl, hb⟩; have hB := hb; clear hb) | (go_at_call 9; refine (signs_any _ _ _).mono ?_; rintro e w1 ⟨rfl, hb⟩; replace hB := below_then hB hB.size hb; clear hb) | (go_at_call 10; refine (ref_signs _ _ _).mono ?_; rintro e w1 ⟨rfl, hb⟩; replace hB := below_then hB hB.size hb; clear hb) | (go_at_call 11; refine (MODE.out _).mono ?_; rintro e w1 ⟨rfl, hb⟩; replace hB := below_then hB hB.size hb; clear hb))
    go_ret
    exact ⟨rfl, hB⟩
set_option maxRecDepth 100000 in
set_option maxHeartbeats 1600000 in
theorem law_ii (kind mode other more : Int) (hk : ¬ (1 ≤ kind ∧ kind ≤ 7)) (ho : ¬ (1 ≤ other ∧ other ≤ 7)) (w : World) :
    Calls Try.prog 3 #[.int .i64 kind, .int .i64 mode, .int .i64 other, .int .i64 more] w fun e w' => e = .returned (.bool true) ∧ Below w.heap.size w w' := by
  have MODE := Lib.hid (fun W : World => mode_bad kind mode hk W)
  have q := q_eq kind mode other more
  have ek : kn kind = 0 := by unfold kn; rw [if_neg hk]
  have eo : kn other = 0 := by unfold kn; rw [if_neg ho]
  rw [ek, eo] at q
  have hl : (sgl kind mode).length = 10 := sgl_len kind mode
  have hn : (nn mode : Int) < 4096 := by have := nn_lt mode; omega
  have hnn := sgl_nn 1 mode
  rw [decide_eq_true rfl, Bool.true_and] at q
  clear ek eo
  cases h3 : (sgl 1 mode == sgl 1 more) <;> rw [h3] at q <;> by_cases hk1 : kind < 1 <;> by_cases ho1 : other < 1
  all_goals
    first | have hk2 : 7 < kind := by omega | skip
    first | have ho2 : 7 < other := by omega | skip
    clear hk ho
    go_enter Try.func3, Try.ntmps3
    go_wp2_with (first | (go_at_call 8; refine (alive_any _).mono ?_; rintro e w1 ⟨rfl, hb⟩; have hB := hb; clear hb) | (go_at_call 9; refine (signs_any _ _ _).mono ?_; rintro e w1 ⟨rfl, hb⟩; replace hB := below_then hB hB.size hb; clear hb) | (go_at_call 10; refine (ref_signs _ _ _).mono ?_; rintro e w1 ⟨rfl, hb⟩; replace hB := below_then hB hB.size hb; clear hb) | (go_at_call 11; refine (MODE.out _).mono ?_; rintro e w1 ⟨rfl, hb⟩; replace hB := below_then hB hB.size hb; clear hb))
    go_ret
    exact ⟨rfl, hB⟩
theorem law_any (kind mode other more : Int) (w : World) :
    Calls Try.prog 3 #[.int .i64 kind, .int .i64 mode, .int .i64 other, .int .i64 more] w fun e w' => e = .returned (.bool true) ∧ Below w.heap.size w w' := by
  by_cases hk : 1 ≤ kind ∧ kind ≤ 7 <;> by_cases ho : 1 ≤ other ∧ other ≤ 7
  · exact law_vv kind mode other more hk ho w
  · exact law_vi kind mode other more hk ho w
  · exact law_iv kind mode other more hk ho w
  · exact law_ii kind mode other more hk ho w
end Go.Proofs.Ytnigmpkflmanoaa.Sg
