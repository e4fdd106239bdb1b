/- glob, the plain law of quoted texts. -/
import Derived.Test.YtkgldphpkglcmaaGlW
namespace Go.Proofs.Ytkgldphpkglcmaa.Gl
open Go.RowKit Go.Proofs.YtkgldphpkglcmaaW.PrintWords Go.Proofs.YtkgldphpkglcmaaW.PrintLast Go.Proofs.YtkgldphpkglcmaaW.PrintMore
set_option linter.unusedSimpArgs false
set_option linter.unusedVariables false
def sign (c : UInt8) : Bool := c == 42 || c == 63 || c == 91 || c == 92
def quoteL : List UInt8 → List UInt8
  | [] => []
  | c :: s => if sign c then 92 :: c :: quoteL s else c :: quoteL s
theorem hasR_one (c d : UInt8) : hasR [(c, c)] false d true = decide (d = c) := by
  unfold hasR
  rw [inR_one, Bool.or_true, Bool.and_true]
  cases decide (d = c) <;> rfl
theorem quote_len (s : List UInt8) : s.length ≤ (quoteL s).length := by
  induction s with
  | nil => exact Nat.le_refl _
  | cons c s ih => simp only [quoteL]; split <;> simp <;> omega
theorem ok_quote (r : List UInt8) (k : Nat) (hr : okL k r = true) : ∀ s : List UInt8, okL (s.length + k) (quoteL s ++ r) = true
  | [] => by simpa [quoteL] using hr
  | c :: s => by
    have ih := ok_quote r k hr s
    rw [show (c :: s).length + k = (s.length + k) + 1 from by simp; omega]
    simp only [quoteL]
    by_cases h : sign c = true
    · rw [if_pos h]
      show okL (s.length + k + 1) (92 :: (c :: (quoteL s ++ r))) = true
      simp only [okL]
      rw [fst_92]
      exact ih
    · rw [if_neg h]
      show okL (s.length + k + 1) (c :: (quoteL s ++ r)) = true
      simp only [sign, Bool.or_eq_true, beq_iff_eq, not_or] at h
      simp only [okL]
      rw [fst_o _ h.1.1.1 h.1.1.2 h.2 h.1.2]
      exact ih
theorem mat_quote (r : List UInt8) (k : Nat) : ∀ (s u : List UInt8), matR (s.length + k) (quoteL s ++ r) u = (decide (s <+: u) && matR k r (u.drop s.length))
  | [], u => by simp [quoteL]
  | c :: s, u => by
    have ih := mat_quote r k s
    rw [show (c :: s).length + k = (s.length + k) + 1 from by simp; omega]
    have hone : ∀ u, oneR (matR (s.length + k) (quoteL s ++ r)) (0, [(c, c)], false) true u = (decide (c :: s <+: u) && matR k r (u.drop (c :: s).length)) := by
      intro u
      cases u with
      | nil => simp [oneR]
      | cons d u =>
        show (hasR [(c, c)] false d true && matR (s.length + k) (quoteL s ++ r) u) = _
        rw [hasR_one, ih u]
        by_cases hd : d = c
        · subst hd; simp
        · rw [decide_eq_false hd]; simp [List.cons_prefix_cons, Ne.symm hd]
    simp only [quoteL]
    by_cases h : sign c = true
    · rw [if_pos h]
      show matR (s.length + k + 1) (92 :: (c :: (quoteL s ++ r))) u = _
      simp only [matR]
      rw [fst_92]
      exact hone u
    · rw [if_neg h]
      show matR (s.length + k + 1) (c :: (quoteL s ++ r)) u = _
      simp only [sign, Bool.or_eq_true, beq_iff_eq, not_or] at h
      have hp : plainB c = true := by
        unfold plainB
        have h1 : (c != 63) = true := by simpa using h.1.1.2
        have h2 : (c != 91) = true := by simpa using h.1.2
        rw [h1, h2]; rfl
      simp only [matR]
      rw [fst_o _ h.1.1.1 h.1.1.2 h.2 h.1.2]
      show pieceR _ _ (plainB c) u = _
      rw [hp]
      exact hone u
theorem star_end (kd : Int) (h : kd ≠ 1) : ∀ u, starR (fun u => u.isEmpty) kd u = true
  | [] => rfl
  | d :: u => by
    show ((d :: u).isEmpty || (if kd = 1 ∧ d = 47 then false else starR _ kd u)) = true
    rw [if_neg (fun e => h e.1), star_end kd h u, Bool.or_true]
theorem star_run : ∀ u, starR (fun u => u.isEmpty) 1 u = !u.contains 47
  | [] => rfl
  | d :: u => by
    show ((d :: u).isEmpty || (if (1 : Int) = 1 ∧ d = 47 then false else starR _ 1 u)) = _
    by_cases h : d = 47
    · subst h; rw [if_pos ⟨rfl, rfl⟩]; simp
    · rw [if_neg (fun e => h e.2), star_run u]; simp [Ne.symm h]
theorem mat_nil (k : Nat) (u : List UInt8) : matR (k + 1) [] u = u.isEmpty := rfl
theorem mat_deep (k : Nat) (u : List UInt8) : matR (k + 2) [42, 42] u = true := by
  show pieceR (matR (k + 1) []) (2, [], false) (plainB 42) u = true
  exact star_end 2 (by decide) u
theorem mat_run (k : Nat) (u : List UInt8) : matR (k + 2) [42] u = !u.contains 47 := by
  show pieceR (matR (k + 1) []) (1, [], false) (plainB 42) u = _
  exact star_run u
theorem quote_right (s : List UInt8) : rightB (tx (quoteL s)) = true := by
  unfold rightB
  rw [tx_size]
  have hl := quote_len s
  obtain ⟨k, hk⟩ : ∃ k, (quoteL s).length + 1 = s.length + (k + 1) := ⟨(quoteL s).length - s.length, by omega⟩
  rw [hk]
  have := ok_quote [] (k + 1) rfl s
  rw [List.append_nil] at this
  exact this
theorem quote_match (s : List UInt8) (t : ByteArray) : matB (tx (quoteL s)) t = decide (s = t.data.toList) := by
  unfold matB
  rw [tx_size]
  have hl := quote_len s
  obtain ⟨k, hk⟩ : ∃ k, (quoteL s).length + 1 = s.length + (k + 1) := ⟨(quoteL s).length - s.length, by omega⟩
  rw [hk]
  have := mat_quote [] (k + 1) s t.data.toList
  rw [List.append_nil] at this
  refine (show matR (s.length + (k + 1)) (quoteL s) t.data.toList = _ from this).trans ?_
  rw [mat_nil, Bool.eq_iff_iff, Bool.and_eq_true_iff, decide_eq_true_iff, decide_eq_true_iff, List.isEmpty_iff]
  constructor
  · rintro ⟨⟨x, hx⟩, h2⟩
    rw [← hx, List.drop_left] at h2
    rw [← hx, h2, List.append_nil]
  · intro h
    rw [← h]
    exact ⟨List.prefix_refl _, List.drop_length⟩
theorem quote_deep_right (s : List UInt8) : rightB (tx (quoteL s ++ [42, 42])) = true := by
  unfold rightB
  rw [tx_size]
  have hl := quote_len s
  obtain ⟨k, hk⟩ : ∃ k, (quoteL s ++ [42, 42]).length + 1 = s.length + (k + 3) := ⟨(quoteL s).length - s.length, by simp; omega⟩
  rw [hk]
  exact ok_quote [42, 42] (k + 3) rfl s
theorem quote_deep (s t : List UInt8) : matB (tx (quoteL s ++ [42, 42])) (tx (s ++ t)) = true := by
  unfold matB
  rw [tx_size]
  have hl := quote_len s
  obtain ⟨k, hk⟩ : ∃ k, (quoteL s ++ [42, 42]).length + 1 = s.length + (k + 3) := ⟨(quoteL s).length - s.length, by simp; omega⟩
  rw [hk]
  refine (show matR (s.length + (k + 3)) (quoteL s ++ [42, 42]) (s ++ t) = _ from mat_quote [42, 42] (k + 3) s (s ++ t)).trans ?_
  rw [mat_deep]
  simp
theorem deep_all (t : ByteArray) : rightB ⟨#[42, 42]⟩ = true ∧ matB ⟨#[42, 42]⟩ t = true := ⟨by decide +kernel, mat_deep 1 t.data.toList⟩
theorem run_all (t : ByteArray) : rightB ⟨#[42]⟩ = true ∧ matB ⟨#[42]⟩ t = !t.data.toList.contains 47 := ⟨by decide +kernel, mat_run 0 t.data.toList⟩
end Go.Proofs.Ytkgldphpkglcmaa.Gl
