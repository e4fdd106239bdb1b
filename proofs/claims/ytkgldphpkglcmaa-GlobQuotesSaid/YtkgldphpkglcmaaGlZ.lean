/- the reference's Quote. -/
import Derived.Test.YtkgldphpkglcmaaGlY
import Derived.Test.YtkgldphpkglcmaaPx15
namespace Go.Proofs.Ytkgldphpkglcmaa.Gl
open Go.RowKit Go.Proofs.YtkgldphpkglcmaaW.PrintWords Go.Proofs.YtkgldphpkglcmaaW.PrintLast Go.Proofs.YtkgldphpkglcmaaW.PrintMore
set_option linter.unusedSimpArgs false
set_option linter.unusedVariables false
theorem tx_app (a b : List UInt8) : tx a ++ tx b = tx (a ++ b) := by
  apply ByteArray.ext
  rw [ByteArray.data_append]
  simp [tx]
theorem Pos.cut {s : ByteArray} {n : Nat} {c : UInt8} {t : List UInt8} (h : Pos s n (c :: t)) : s.extract n (n + 1) = tx [c] := by
  have hd := h.dr
  apply ByteArray.ext
  rw [ByteArray.data_extract]
  apply Array.ext'
  rw [Array.toList_extract]
  simp [tx, hd]
theorem quote_l0 (s : ByteArray) (hs : s.size ≤ 1000) : ∀ (k n : Nat) (l acc : List UInt8), Pos s n l → l.length < k → acc.length ≤ 2 * n →
    P.oakumref25_Quote.l0 k s (tx acc) n = some (tx (acc ++ quoteL l))
  | 0, n, l, acc, hp, hk, ha => by omega
  | k + 1, n, [], acc, hp, hk, ha => by
    have hl := hp.len
    simp at hl
    simp only [P.oakumref25_Quote.l0]
    rw [if_neg (by omega)]
    simp [quoteL]
  | k + 1, n, c :: t, acc, hp, hk, ha => by
    have hlt := hp.lt
    have hb := hp.bt
    have hx := hp.cut
    have hw : wrap64 ((n : Int) + 1) = ((n + 1 : Nat) : Int) := by unfold wrap64; omega
    have hm : (⟨#[92]⟩ : ByteArray) = tx [92] := rfl
    have ih1 := quote_l0 s hs k (n + 1) t (acc ++ [c]) hp.next (by simpa using hk) (by simp; omega)
    have ih2 := quote_l0 s hs k (n + 1) t (acc ++ [92] ++ [c]) hp.next (by simpa using hk) (by simp; omega)
    simp only [P.oakumref25_Quote.l0]
    rw [hw, Int.toNat_natCast, Int.toNat_natCast, hx, hm, hb, tx_app, tx_app, tx_app]
    rw [if_pos (by omega), if_pos (by omega)]
    have two : (if (tx acc).size + 1 ≤ 9223372036854775807 then (if (n : Int) ≤ ((n + 1 : Nat) : Int) then (if ((n + 1 : Nat) : Int) ≤ (s.size : Int) then (if (tx (acc ++ [92])).size + (tx [c]).size ≤ 9223372036854775807 then P.oakumref25_Quote.l0 k s (tx (acc ++ [92] ++ [c])) ((n + 1 : Nat) : Int) else none) else none) else none) else none) = some (tx (acc ++ [92] ++ [c] ++ quoteL t)) := by
      rw [tx_size, tx_size, tx_size, if_pos (by omega), if_pos (by omega), if_pos (by omega), if_pos (by simp; omega), ih2]
    by_cases h42 : c = 42
    · rw [if_pos (by rw [h42]; rfl), two]; simp [quoteL, sign, h42]
    rw [if_neg (by exact u8_ne c 42 (by omega) h42)]
    by_cases h63 : c = 63
    · rw [if_pos (by rw [h63]; rfl), two]; simp [quoteL, sign, h63]
    rw [if_neg (by exact u8_ne c 63 (by omega) h63)]
    by_cases h91 : c = 91
    · rw [if_pos (by rw [h91]; rfl), two]; simp [quoteL, sign, h91]
    rw [if_neg (by exact u8_ne c 91 (by omega) h91)]
    by_cases h92 : c = 92
    · rw [if_pos (by rw [h92]; rfl), two]; simp [quoteL, sign, h92]
    rw [if_neg (by exact u8_ne c 92 (by omega) h92)]
    rw [if_pos (by omega), if_pos (by omega), tx_size, tx_size, if_pos (by simp; omega), ih1]
    simp [quoteL, sign, h42, h63, h91, h92]
theorem quote_ref (s : ByteArray) (hs : s.size ≤ 1000) (w : World) :
    Calls Try.prog 12 #[.string s] w fun e w' => e = .returned (.string (tx (quoteL s.data.toList))) ∧ Below w.heap.size w w' := by
  have h := quote_l0 s hs (s.size + 1) 0 s.data.toList [] (Pos.zero s) (by rw [data_length]; omega) (by simp)
  refine (P.oakumref25_Quote.calls (s.size + 1) s _ w h).mono ?_
  rintro e w' ⟨rfl, hd⟩
  exact ⟨rfl, hd.below⟩
end Go.Proofs.Ytkgldphpkglcmaa.Gl
