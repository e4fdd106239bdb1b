/- glob.Right, glob.Match; the law GlobMatches, walked. -/
import Derived.Test.YtkgldphpkglcmaaGlV
namespace Go.Proofs.Ytkgldphpkglcmaa.Gl
open Go.RowKit Go.Proofs.YtkgldphpkglcmaaW.PrintWords Go.Proofs.YtkgldphpkglcmaaW.PrintLast Go.Proofs.YtkgldphpkglcmaaW.PrintMore
set_option linter.unusedSimpArgs false
set_option linter.unusedVariables false
def rightB (s : ByteArray) : Bool := okL (s.size + 1) s.data.toList
def matB (s t : ByteArray) : Bool := matR (s.size + 1) s.data.toList t.data.toList
theorem ok_none : ∀ (k : Nat) (l : List UInt8) (xs : List RP), pcL k l xs = some none → okL k l = false
  | 0, l, xs, h => by simp [pcL] at h
  | k + 1, [], xs, h => by simp [pcL] at h
  | k + 1, c :: t, xs, h => by
    simp only [pcL] at h
    simp only [okL]
    cases hf : fst (c :: t) with
    | none => rfl
    | some y =>
      obtain ⟨x, rest⟩ := y
      rw [hf] at h
      exact ok_none k rest _ h
/-- what a pattern is to both. -/
theorem both (s : ByteArray) : (rightB s = false ∧ compL (s.size + 1) s.data.toList [] = some none ∧ pcL (s.size + 1) s.data.toList [] = some none) ∨
    ∃ qs ys, rightB s = true ∧ compL (s.size + 1) s.data.toList [] = some (some qs) ∧ pcL (s.size + 1) s.data.toList [] = some (some ys) ∧ (∀ x ∈ qs, x.1 = 0 ∨ x.1 = 1 ∨ x.1 = 2) ∧ qs.length ≤ s.size ∧ ∀ t : ByteArray, matB s t = matP qs t.data.toList := by
  rcases comp_ref (s.size + 1) s.data.toList [] [] (by rw [data_length]; omega) with ⟨h1, h2⟩ | ⟨qs, ys, h1, h2, h3, h4, h5, h6⟩
  · exact .inl ⟨ok_none _ _ _ h2, h1, h2⟩
  · exact .inr ⟨qs, ys, h3, h1, h2, h4, by rw [data_length] at h5; exact h5, fun t => h6 _⟩
theorem right_any (s : ByteArray) (hs : s.size ≤ 1000) (w : World) :
    Calls Try.prog 9 #[.string s] w fun e w' => e = .returned (.bool (rightB s)) ∧ Below w.heap.size w w' := by
  rcases both s with ⟨h0, h1, _⟩ | ⟨qs, ys, h0, h1, _, _, _, _⟩
  · rw [h0]
    have HC := Lib.hid (compile_any s (s.size + 1) _ h1 hs)
    go_enter Try.func9, Try.ntmps9
    go_wp2_with fail
    refine (HC.out _).mono ?_
    rintro e w1 ⟨⟨v', rfl⟩, hb⟩
    go_wp2
    go_ret
    exact ⟨rfl, hb⟩
  · rw [h0]
    have HC := Lib.hid (compile_any s (s.size + 1) _ h1 hs)
    go_enter Try.func9, Try.ntmps9
    go_wp2_with fail
    refine (HC.out _).mono ?_
    rintro e w1 ⟨v', rfl, _, hb, _⟩
    go_wp2
    go_ret
    exact ⟨rfl, hb⟩
def codeB (s : ByteArray) : Int := if rightB s then 0 else 15
theorem match_any (s t : ByteArray) (hs : s.size ≤ 1000) (ht : t.size ≤ 1000) (w : World) :
    Calls Try.prog 7 #[.string s, .string t] w fun e w' => e = .returned (.tuple #[.bool (rightB s && matB s t), .int .u8 (codeB s)]) ∧ Below w.heap.size w w' := by
  unfold codeB
  rcases both s with ⟨h0, h1, _⟩ | ⟨qs, ys, h0, h1, _, hK, hql, hm⟩
  · rw [h0]
    have HC := Lib.hid (compile_any s (s.size + 1) _ h1 hs)
    clear h1 h0
    go_enter Try.func7, Try.ntmps7
    go_wp2_with fail
    refine (HC.out _).mono ?_
    rintro e w1 ⟨⟨v', rfl⟩, hb⟩
    go_wp2
    go_ret2
    exact ⟨rfl, hb⟩
  · rw [h0, hm t, ← matchB_eq qs hK]
    have HC := Lib.hid (compile_any s (s.size + 1) _ h1 hs)
    clear h1 h0 hK hm
    go_enter Try.func7, Try.ntmps7
    go_wp2_with fail
    refine (HC.out _).mono ?_
    rintro e w1 ⟨v', rfl, hown, hb, hl⟩
    obtain ⟨A, cap, rfl, hLv⟩ := Lv.of_own hown hl
    have HM := Lib.hid (matches_any w1 A cap qs t (by omega) ht hLv)
    clear hown hl hLv
    go_wp2_with fail
    refine HM.out.mono ?_
    rintro e w2 ⟨rfl, hb2⟩
    have hB := below_then hb hb.size hb2
    go_wp2
    go_ret2
    exact ⟨rfl, hB⟩
def exP : ByteArray := ⟨#[97, 42, 91, 33, 98, 45, 100, 93, 63]⟩
def exA : ByteArray := ⟨#[97, 120, 101, 121]⟩
def exB : ByteArray := ⟨#[97, 47, 101, 121]⟩
theorem ex_right : rightB exP = true := by decide +kernel
theorem ex_a : matB exP exA = true := by decide +kernel
theorem ex_b : matB exP exB = false := by decide +kernel
theorem ex_1 (w : World) : Calls Try.prog 7 #[.string ⟨#[97, 42, 91, 33, 98, 45, 100, 93, 63]⟩, .string ⟨#[97, 120, 101, 121]⟩] w fun e w' => e = .returned (.tuple #[.bool true, .int .u8 0]) ∧ Below w.heap.size w w' := by
  have h := match_any exP exA (by decide) (by decide) w
  unfold codeB at h
  rw [ex_right, ex_a] at h
  exact h
theorem ex_2 (w : World) : Calls Try.prog 7 #[.string ⟨#[97, 42, 91, 33, 98, 45, 100, 93, 63]⟩, .string ⟨#[97, 47, 101, 121]⟩] w fun e w' => e = .returned (.tuple #[.bool false, .int .u8 0]) ∧ Below w.heap.size w w' := by
  have h := match_any exP exB (by decide) (by decide) w
  unfold codeB at h
  rw [ex_right, ex_b] at h
  exact h
theorem alive_glob (w : World) : Calls Try.prog 5 #[] w fun e w' => e = .returned (.bool true) ∧ Below w.heap.size w w' := by
  go_enter Try.func5, Try.ntmps5
  go_wp2_with fail
  refine (ex_1 _).mono ?_
  rintro e w1 ⟨rfl, hb⟩
  go_wp2_with fail
  refine (ex_2 _).mono ?_
  rintro e w2 ⟨rfl, hb2⟩
  have hB := below_then hb hb.size hb2
  clear hb hb2
  go_wp2
  go_ret
  exact ⟨rfl, hB⟩
def FarPost (s t : ByteArray) (w : World) (e : Ending) (w' : World) : Prop := ∃ b, e = .returned (.bool b) ∧ (b = false → s.size ≤ 60 ∧ t.size ≤ 60) ∧ Below w.heap.size w w'
theorem far_glob (s t : ByteArray) (w : World) : Calls Try.prog 6 #[.string s, .string t] w fun e w' => FarPost s t w e w' := by
  by_cases h1 : 60 < s.size
  · have hd : decide (60 < s.size) = true := decide_eq_true h1
    go_enter Try.func6, Try.ntmps6
    go_wp2
    go_ret
    exact ⟨true, rfl, fun h => (Bool.noConfusion h), Below.refl _ _⟩
  · have hd : decide (60 < s.size) = false := decide_eq_false h1
    by_cases h2 : 60 < t.size
    · have hd2 : decide (60 < t.size) = true := decide_eq_true h2
      go_enter Try.func6, Try.ntmps6
      go_wp2
      go_ret
      exact ⟨true, rfl, fun h => (Bool.noConfusion h), Below.refl _ _⟩
    · have hd2 : decide (60 < t.size) = false := decide_eq_false h2
      obtain ⟨r0, hr0⟩ := pcL_some (s.size + 1) s.data.toList [] (by rw [data_length]; omega)
      have HS := Lib.hid (stars_ref s r0 hr0 (by omega))
      clear hr0
      go_enter Try.func6, Try.ntmps6
      go_wp2_with fail
      refine (HS.out _).mono ?_
      rintro e w1 ⟨rfl, hb⟩
      go_wp2
      go_ret
      exact ⟨_, rfl, fun _ => ⟨by omega, by omega⟩, hb⟩
set_option maxHeartbeats 3200000 in
theorem law_glob (p s : ByteArray) (w : World) : Calls Try.prog 3 #[.string p, .string s] w fun e w' => e = .returned (.bool true) ∧ Below w.heap.size w w' := by
  go_enter Try.func3, Try.ntmps3
  go_wp2_with fail
  refine (alive_glob _).mono ?_
  rintro e w1 ⟨rfl, hb1⟩
  go_wp2_with fail
  refine (far_glob p s _).mono ?_
  rintro e w2 ⟨b, rfl, hf, hb2⟩
  have hB2 := below_then hb1 hb1.size hb2
  clear hb1 hb2
  cases b with
  | true =>
    go_wp2
    go_ret
    exact ⟨rfl, hB2⟩
  | false =>
    obtain ⟨hp, hs⟩ := hf rfl
    clear hf
    rcases both p with ⟨h0, h1, h2⟩ | ⟨qs, ys, h0, h1, h2, _, _, _⟩
    · have MA := Lib.hid (match_any p s (by omega) (by omega))
      have PC := Lib.hid (pieces_ref p _ h2 (by omega))
      have RI := Lib.hid (right_any p (by omega))
      unfold codeB at MA
      rw [h0] at MA RI
      clear h0 h1 h2
      go_wp2_with fail
      refine (MA.out _).mono ?_
      rintro e w3 ⟨rfl, hb3⟩
      have hB3 := below_then hB2 hB2.size hb3
      clear hb3 hB2 MA
      go_wp2_with fail
      refine (PC.out _).mono ?_
      rintro e w4 ⟨rfl, hb4⟩
      have hB4 := below_then hB3 hB3.size hb4
      clear hb4 hB3 PC
      go_wp2_with fail
      refine (RI.out _).mono ?_
      rintro e w5 ⟨rfl, hb5⟩
      have hB5 := below_then hB4 hB4.size hb5
      clear hb5 hB4 RI
      go_wp2
      go_ret
      exact ⟨rfl, hB5⟩
    · have MA := Lib.hid (match_any p s (by omega) (by omega))
      have PC := Lib.hid (pieces_ref p _ h2 (by omega))
      have RI := Lib.hid (right_any p (by omega))
      have MR := Lib.hid (match_ref p s (by omega) (by omega) (p.size + 1) p.data.toList 0 s.data.toList 0 (Pos.zero p) (Pos.zero s) h0)
      unfold codeB at MA
      rw [h0] at MA RI
      have MR' : Hid (∀ W : World, Calls Try.prog 10 #[.string p, .int .i64 0, .string s, .int .i64 0] W fun e w' => e = .returned (.bool (matB p s)) ∧ Below W.heap.size W w') := MR
      clear h0 h1 h2 MR
      generalize matB p s = mb at *
      go_wp2_with fail
      refine (MA.out _).mono ?_
      rintro e w3 ⟨rfl, hb3⟩
      have hB3 := below_then hB2 hB2.size hb3
      clear hb3 hB2 MA
      go_wp2_with fail
      refine (PC.out _).mono ?_
      rintro e w4 ⟨v, zs, rfl, _, _, hb4, _⟩
      have hB4 := below_then hB3 hB3.size hb4
      clear hb4 hB3 PC
      go_wp2_with fail
      refine (RI.out _).mono ?_
      rintro e w5 ⟨rfl, hb5⟩
      have hB5 := below_then hB4 hB4.size hb5
      clear hb5 hB4 RI
      go_wp2_with fail
      refine (MR'.out _).mono ?_
      rintro e w6 ⟨rfl, hb6⟩
      have hB6 := below_then hB5 hB5.size hb6
      clear hb6 hB5 MR'
      cases mb with
      | true =>
        go_wp2
        go_ret
        exact ⟨rfl, hB6⟩
      | false =>
        go_wp2
        go_ret
        exact ⟨rfl, hB6⟩
end Go.Proofs.Ytkgldphpkglcmaa.Gl
