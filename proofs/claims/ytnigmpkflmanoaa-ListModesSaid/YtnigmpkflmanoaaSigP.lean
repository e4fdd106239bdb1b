/- Plain facts about the ten signs of a kind and a mode: what they are, and that reading them gives the mode back. No program here. -/
namespace Go.Proofs.Ytnigmpkflmanoaa.Sig
/-- the sign of a kind. -/
def kc (k : Int) : UInt8 := if 1 ≤ k ∧ k ≤ 7 then [63, 45, 104, 108, 99, 98, 100, 112].getD k.toNat 63 else 63
/-- the lowest twelve bits. -/
def nn (m : Int) : Nat := (m % 4096).toNat
def bi (n i : Nat) : Bool := n / 2 ^ i % 2 == 1
/-- the sign of bit 8 - i, without the special bits. -/
def sg0 (n i : Nat) : UInt8 := if bi n (8 - i) then [114, 119, 120].getD (i % 3) 0 else 45
def sg (n i : Nat) : UInt8 :=
  if i % 3 = 2 ∧ bi n (11 - i / 3) = true then (if bi n (8 - i) then [115, 115, 116].getD (i / 3) 0 else [83, 83, 84].getD (i / 3) 0) else sg0 n i
def body (n : Nat) : List UInt8 := (List.range 9).map (sg n)
def sgl (k m : Int) : List UInt8 := kc k :: body (nn m)
/-- what a sign at place i (from 1 on) adds. -/
def add (i : Nat) (c : UInt8) : Nat :=
  if c = 120 ∨ c = 119 ∨ c = 114 then 2 ^ (9 - i) else if c = 115 ∨ c = 116 then 2 ^ (9 - i) ||| 2 ^ (12 - i / 3) else if c = 83 ∨ c = 84 then 2 ^ (12 - i / 3) else 0
def decTo (l : List UInt8) (j : Nat) : Nat := (List.range j).foldl (fun a i => a ||| add (i + 1) (l.getD i 0)) 0
def dec (l : List UInt8) : Nat := decTo l 9
theorem dec_body64 : ∀ a < 64, ∀ b < 64, dec (body (64 * a + b)) = 64 * a + b := by decide +kernel
theorem dec_body (n : Nat) (h : n < 4096) : dec (body n) = n := by
  have := dec_body64 (n / 64) (by omega) (n % 64) (by omega)
  rwa [Nat.div_add_mod] at this
theorem body_len (n : Nat) : (body n).length = 9 := by simp [body]
theorem sgl_len (k m : Int) : (sgl k m).length = 10 := by simp [sgl, body_len]
theorem nn_lt (m : Int) : nn m < 4096 := by unfold nn; omega
theorem nn_nat (n : Nat) (h : n < 4096) : nn (n : Int) = n := by unfold nn; omega
theorem body_inj (a b : Nat) (ha : a < 4096) (hb : b < 4096) (h : body a = body b) : a = b := by rw [← dec_body a ha, ← dec_body b hb, h]
theorem kc_out (k : Int) (h : ¬ (1 ≤ k ∧ k ≤ 7)) : kc k = 63 := by unfold kc; rw [if_neg h]
theorem kc_of (k : Int) (h : 1 ≤ k ∧ k ≤ 7) : k = 1 ∨ k = 2 ∨ k = 3 ∨ k = 4 ∨ k = 5 ∨ k = 6 ∨ k = 7 := by omega
theorem kc_inj (a b : Int) (ha : 1 ≤ a ∧ a ≤ 7) (h : kc a = kc b) : a = b := by
  by_cases hb : 1 ≤ b ∧ b ≤ 7
  · rcases kc_of a ha with rfl | rfl | rfl | rfl | rfl | rfl | rfl <;> rcases kc_of b hb with rfl | rfl | rfl | rfl | rfl | rfl | rfl <;> first | rfl | exact absurd h (by decide)
  · rw [kc_out b hb] at h
    rcases kc_of a ha with rfl | rfl | rfl | rfl | rfl | rfl | rfl <;> exact absurd h (by decide)
/-- a kind, or 0 for every number that is none. -/
def kn (k : Int) : Int := if 1 ≤ k ∧ k ≤ 7 then k else 0
theorem sgl_eq (k m o r : Int) : sgl k m = sgl o r ↔ kn k = kn o ∧ nn m = nn r := by
  constructor
  · intro h
    have h1 : kc k = kc o := by injection h
    have h2 : body (nn m) = body (nn r) := by injection h
    refine ⟨?_, body_inj _ _ (nn_lt _) (nn_lt _) h2⟩
    unfold kn
    by_cases hk : 1 ≤ k ∧ k ≤ 7
    · have := kc_inj k o hk h1; subst this; rfl
    · by_cases ho : 1 ≤ o ∧ o ≤ 7
      · have := kc_inj o k ho h1.symm; subst this; rfl
      · rw [if_neg hk, if_neg ho]
  · rintro ⟨h1, h2⟩
    unfold sgl
    rw [h2]
    congr 1
    unfold kn at h1
    by_cases hk : 1 ≤ k ∧ k ≤ 7
    · rw [if_pos hk] at h1
      by_cases ho : 1 ≤ o ∧ o ≤ 7
      · rw [if_pos ho] at h1; rw [h1]
      · rw [if_neg ho] at h1; omega
    · rw [if_neg hk] at h1
      by_cases ho : 1 ≤ o ∧ o ≤ 7
      · rw [if_pos ho] at h1; omega
      · rw [kc_out k hk, kc_out o ho]
end Go.Proofs.Ytnigmpkflmanoaa.Sig
