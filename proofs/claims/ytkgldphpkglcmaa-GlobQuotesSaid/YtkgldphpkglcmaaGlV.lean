/- glob, the plain law: the pieces' counts that may be met are what the reference's search meets. -/
import Derived.Test.YtkgldphpkglcmaaGlH
import Derived.Test.YtkgldphpkglcmaaGlU
namespace Go.Proofs.Ytkgldphpkglcmaa.Gl
open Go.RowKit Go.Proofs.YtkgldphpkglcmaaW.PrintWords Go.Proofs.YtkgldphpkglcmaaW.PrintLast Go.Proofs.YtkgldphpkglcmaaW.PrintMore
set_option linter.unusedSimpArgs false
set_option linter.unusedVariables false
def onePc (f : List UInt8 → Bool) (x : Pc) : List UInt8 → Bool
  | [] => false
  | d :: u => x.2.getD d.toNat false && f u
def piecePc (f : List UInt8 → Bool) (x : Pc) (u : List UInt8) : Bool := if x.1 = 0 then onePc f x u else starR f x.1 u
def matP : List Pc → List UInt8 → Bool
  | [], u => u.isEmpty
  | x :: ps, u => piecePc (matP ps) x u
theorem starR_self (f : List UInt8 → Bool) (kd : Int) (u : List UInt8) (h : f u = true) : starR f kd u = true := by
  cases u <;> (unfold starR; rw [h]; try rfl)
theorem getD_set (M : List Bool) (j k : Nat) (b : Bool) : (M.set j b).getD k false = if k = j ∧ j < M.length then b else M.getD k false := by
  rw [List.getD_eq_getElem?_getD, List.getD_eq_getElem?_getD, List.getElem?_set]
  by_cases h1 : j = k
  · subst h1
    by_cases h2 : j < M.length
    · simp [h2]
    · simp [h2]
  · rw [if_neg h1, if_neg (fun h => h1 h.1.symm)]
section
variable (ps : List Pc)
def star (k : Nat) : Bool := (ps.getD k (0, [])).1 != 0
theorem skipTo_succ (M : List Bool) (k : Nat) : skipTo ps M (k + 1) = if (skipTo ps M k).getD k false && star ps k then (skipTo ps M k).set (k + 1) true else skipTo ps M k := rfl
theorem skip_above (M : List Bool) : ∀ (j k : Nat), j < k → (skipTo ps M j).getD k false = M.getD k false
  | 0, k, h => rfl
  | j + 1, k, h => by
    rw [skipTo_succ]
    split
    · rw [getD_set, if_neg (by omega)]; exact skip_above M j k (by omega)
    · exact skip_above M j k (by omega)
theorem skip_stable (M : List Bool) (k : Nat) : ∀ j, k ≤ j → (skipTo ps M j).getD k false = (skipTo ps M k).getD k false
  | 0, h => by obtain rfl : k = 0 := by omega
               rfl
  | j + 1, h => by
    by_cases e : k = j + 1
    · rw [e]
    · rw [skipTo_succ]
      split
      · rw [getD_set, if_neg (by omega)]; exact skip_stable M k j (by omega)
      · exact skip_stable M k j (by omega)
theorem skip_char (M : List Bool) (n k : Nat) (hk : k + 1 ≤ n) (hM : M.length = n + 1) : (skipTo ps M n).getD (k + 1) false = (M.getD (k + 1) false || ((skipTo ps M n).getD k false && star ps k)) := by
  rw [skip_stable ps M (k + 1) n hk, skip_stable ps M k n (by omega), skipTo_succ]
  by_cases h : ((skipTo ps M k).getD k false && star ps k) = true
  · rw [if_pos h, h, getD_set, if_pos ⟨rfl, by rw [skipTo_len]; omega⟩, Bool.or_true]
  · rw [if_neg h, skip_above ps M k (k + 1) (by omega), Bool.eq_false_iff.2 h, Bool.or_false]
theorem skip_zero (M : List Bool) (n : Nat) : (skipTo ps M n).getD 0 false = M.getD 0 false := skip_stable ps M 0 n (Nat.zero_le _)
def Acc (M : List Bool) (u : List UInt8) : Prop := ∃ k, k ≤ ps.length ∧ M.getD k false = true ∧ matP (ps.drop k) u = true
theorem drop_star (k : Nat) (hk : k < ps.length) : ∃ x, ps.drop k = x :: ps.drop (k + 1) ∧ ps.getD k (0, []) = x ∧ x ∈ ps := by
  refine ⟨ps[k], List.drop_eq_getElem_cons hk, ?_, List.getElem_mem hk⟩
  rw [List.getD_eq_getElem?_getD, List.getElem?_eq_getElem hk]; rfl
theorem acc_skip (M : List Bool) (hM : M.length = ps.length + 1) (u : List UInt8) : Acc ps (skipTo ps M ps.length) u ↔ Acc ps M u := by
  constructor
  · rintro ⟨k, hk, hm, hu⟩
    induction k with
    | zero => rw [skip_zero] at hm; exact ⟨0, hk, hm, hu⟩
    | succ k ih =>
      rw [skip_char ps M ps.length k hk hM] at hm
      rcases Bool.or_eq_true_iff.1 hm with h | h
      · exact ⟨k + 1, hk, h, hu⟩
      · obtain ⟨h1, h2⟩ := Bool.and_eq_true_iff.1 h
        obtain ⟨x, e1, e2, _⟩ := drop_star ps k (by omega)
        refine ih (by omega) h1 ?_
        rw [e1]
        show piecePc _ x u = true
        unfold star at h2
        rw [e2] at h2
        unfold piecePc
        rw [if_neg (by simpa using h2)]
        exact starR_self _ _ _ hu
  · rintro ⟨k, hk, hm, hu⟩
    refine ⟨k, hk, ?_, hu⟩
    cases k with
    | zero => rw [skip_zero]; exact hm
    | succ k => rw [skip_char ps M ps.length k hk hM, hm]; rfl
def Puts (M : List Bool) (c : UInt8) (q k : Nat) : Prop := M.getD k false = true ∧ (((ps.getD k (0, [])).1 = 0 ∧ (ps.getD k (0, [])).2.getD c.toNat false = true ∧ q = k + 1) ∨ ((ps.getD k (0, [])).1 ≠ 0 ∧ ((ps.getD k (0, [])).1 = 2 ∨ c ≠ 47) ∧ q = k))
theorem ex_succ (P : Nat → Prop) (j : Nat) : (∃ k, k < j + 1 ∧ P k) ↔ ((∃ k, k < j ∧ P k) ∨ P j) := by
  constructor
  · rintro ⟨k, h, hp⟩
    by_cases e : k = j
    · subst e; exact .inr hp
    · exact .inl ⟨k, by omega, hp⟩
  · rintro (⟨k, h, hp⟩ | hp)
    · exact ⟨k, by omega, hp⟩
    · exact ⟨j, by omega, hp⟩
theorem next_char (M : List Bool) (c : UInt8) (q : Nat) : ∀ j, j ≤ ps.length → ((nextTo ps M c j).getD q false = true ↔ ∃ k, k < j ∧ Puts ps M c q k)
  | 0, _ => by
    constructor
    · intro h
      simp only [nextTo] at h
      rw [List.getD_eq_getElem?_getD, List.getElem?_replicate] at h
      split at h <;> simp at h
    · rintro ⟨k, h, _⟩; omega
  | j + 1, hj => by
    have ih := next_char M c q j (by omega)
    have hl := nextTo_len ps M c j
    rw [ex_succ, ← ih]
    simp only [nextTo]
    generalize nextTo ps M c j = N at *
    unfold Puts
    generalize ps.getD j (0, []) = x at *
    by_cases hm : M.getD j false = false
    · rw [if_pos hm, hm]; simp
    · rw [if_neg hm]
      have hm1 : M.getD j false = true := by simpa using hm
      by_cases h0 : x.1 = 0
      · rw [if_pos h0, getD_set, hm1]
        by_cases hq : q = j + 1
        · subst hq
          rw [if_pos ⟨rfl, by omega⟩, Bool.or_eq_true_iff]
          simp [h0]
        · rw [if_neg (fun h => hq h.1)]
          simp [h0, hq]
      · rw [if_neg h0, hm1]
        by_cases h2 : x.1 = 2 ∨ c ≠ 47
        · rw [if_pos h2, getD_set]
          by_cases hq : q = j
          · subst hq
            rw [if_pos ⟨rfl, by omega⟩]
            simp only [true_iff]
            exact .inr ⟨trivial, .inr ⟨h0, h2, trivial⟩⟩
          · rw [if_neg (fun h => hq h.1)]
            constructor
            · exact .inl
            · rintro (h | ⟨_, ⟨h, _⟩ | ⟨_, _, h⟩⟩)
              · exact h
              · exact absurd h h0
              · exact absurd h hq
        · rw [if_neg h2]
          constructor
          · exact .inl
          · rintro (h | ⟨_, ⟨h, _⟩ | ⟨_, h, _⟩⟩)
            · exact h
            · exact absurd h h0
            · exact absurd h h2
def Closed (M : List Bool) : Prop := ∀ k, k < ps.length → M.getD k false = true → star ps k = true → M.getD (k + 1) false = true
theorem skip_closed (M : List Bool) (hM : M.length = ps.length + 1) : Closed ps (skipTo ps M ps.length) := by
  intro k hk h1 h2
  rw [skip_char ps M ps.length k (by omega) hM, h1, h2]
  simp
theorem mt_closed (s : List UInt8) (i : Nat) : Closed ps (mt ps s i) := by
  cases i with
  | zero => exact skip_closed ps _ (by simp)
  | succ i => exact skip_closed ps _ (nextTo_len _ _ _ _)
/-- a step over one byte. -/
theorem acc_step (hK : ∀ x ∈ ps, x.1 = 0 ∨ x.1 = 1 ∨ x.1 = 2) (M : List Bool) (hc : Closed ps M) (d : UInt8) (u : List UInt8) : Acc ps (nextTo ps M d ps.length) u ↔ Acc ps M (d :: u) := by
  constructor
  · rintro ⟨q, hq, hm, hu⟩
    obtain ⟨k, hk, h1, h2⟩ := (next_char ps M d q ps.length (Nat.le_refl _)).1 hm
    obtain ⟨x, e1, e2, hx⟩ := drop_star ps k hk
    rw [e2] at h2
    refine ⟨k, by omega, h1, ?_⟩
    rw [e1]
    show piecePc _ x (d :: u) = true
    unfold piecePc
    rcases h2 with ⟨h3, h4, rfl⟩ | ⟨h3, h4, hqk⟩
    · rw [if_pos h3]
      show (x.2.getD d.toNat false && _) = true
      rw [h4, hu]; rfl
    · rw [if_neg h3]
      show (_ || (if x.1 = 1 ∧ d = 47 then false else starR _ x.1 u)) = true
      rw [hqk, e1] at hu
      have hu2 : piecePc (matP (ps.drop (k + 1))) x u = true := hu
      unfold piecePc at hu2
      rw [if_neg h3] at hu2
      rw [if_neg (fun h => h4.elim (fun e => by rw [e] at h; exact absurd h.1 (by decide)) (fun e => e h.2)), hu2, Bool.or_true]
  · rintro ⟨k, hk, hm, hu⟩
    have key : ∀ m k, ps.length - k = m → k ≤ ps.length → M.getD k false = true → matP (ps.drop k) (d :: u) = true → Acc ps (nextTo ps M d ps.length) u := by
      intro m
      induction m with
      | zero =>
        intro k h0 hk hm hu
        obtain rfl : k = ps.length := by omega
        rw [List.drop_length] at hu
        simp [matP] at hu
      | succ m ih =>
        intro k h0 hk hm hu
        have hk2 : k < ps.length := by omega
        obtain ⟨x, e1, e2, hx⟩ := drop_star ps k hk2
        rw [e1] at hu
        have hu2 : piecePc (matP (ps.drop (k + 1))) x (d :: u) = true := hu
        unfold piecePc at hu2
        by_cases h3 : x.1 = 0
        · rw [if_pos h3] at hu2
          have hu3 : (x.2.getD d.toNat false && matP (ps.drop (k + 1)) u) = true := hu2
          obtain ⟨h4, h5⟩ := Bool.and_eq_true_iff.1 hu3
          exact ⟨k + 1, by omega, (next_char ps M d (k + 1) ps.length (Nat.le_refl _)).2 ⟨k, hk2, hm, .inl ⟨by rw [e2]; exact h3, by rw [e2]; exact h4, rfl⟩⟩, h5⟩
        · rw [if_neg h3] at hu2
          have hu3 : (matP (ps.drop (k + 1)) (d :: u) || (if x.1 = 1 ∧ d = 47 then false else starR (matP (ps.drop (k + 1))) x.1 u)) = true := hu2
          rcases Bool.or_eq_true_iff.1 hu3 with h4 | h4
          · refine ih (k + 1) (by omega) (by omega) (hc k hk2 hm ?_) h4
            unfold star
            rw [e2]
            simpa using h3
          · by_cases h5 : x.1 = 1 ∧ d = 47
            · rw [if_pos h5] at h4; cases h4
            · rw [if_neg h5] at h4
              refine ⟨k, by omega, (next_char ps M d k ps.length (Nat.le_refl _)).2 ⟨k, hk2, hm, .inr ⟨by rw [e2]; exact h3, ?_, rfl⟩⟩, ?_⟩
              · rw [e2]
                rcases hK x hx with h | h | h
                · exact absurd h h3
                · exact .inr (fun e => h5 ⟨h, e⟩)
                · exact .inl h
              · rw [e1]
                show piecePc _ x u = true
                unfold piecePc
                rw [if_neg h3]
                exact h4
    exact key _ k rfl hk hm hu
theorem mt_acc (hK : ∀ x ∈ ps, x.1 = 0 ∨ x.1 = 1 ∨ x.1 = 2) (s : List UInt8) : ∀ i, i ≤ s.length → (Acc ps (mt ps s i) (s.drop i) ↔ matP ps s = true)
  | 0, _ => by
    simp only [mt]
    rw [acc_skip ps _ (by simp), List.drop_zero]
    constructor
    · rintro ⟨k, hk, hm, hu⟩
      cases k with
      | zero => simpa using hu
      | succ k =>
        rw [List.getD_eq_getElem?_getD, List.getElem?_cons_succ, List.getElem?_replicate] at hm
        split at hm <;> simp at hm
    · intro h
      exact ⟨0, Nat.zero_le _, rfl, by simpa using h⟩
  | i + 1, hi => by
    have ih := mt_acc hK s i (by omega)
    have hd : s.drop i = s.getD i 0 :: s.drop (i + 1) := by
      rw [List.getD_eq_getElem?_getD, List.getElem?_eq_getElem (by omega : i < s.length)]
      exact List.drop_eq_getElem_cons (by omega)
    simp only [mt]
    rw [acc_skip ps _ (nextTo_len _ _ _ _), acc_step ps hK _ (mt_closed ps s i), ← hd]
    exact ih
theorem matchB_eq (hK : ∀ x ∈ ps, x.1 = 0 ∨ x.1 = 1 ∨ x.1 = 2) (s : List UInt8) : matchB ps s = matP ps s := by
  have h := mt_acc ps hK s s.length (Nat.le_refl _)
  rw [List.drop_length] at h
  have hc := mt_closed ps s s.length
  rw [Bool.eq_iff_iff, ← h]
  unfold matchB
  generalize mt ps s s.length = M at *
  constructor
  · intro hm
    exact ⟨ps.length, Nat.le_refl _, hm, by rw [List.drop_length]; rfl⟩
  · rintro ⟨k, hk, hm, hu⟩
    have key : ∀ m k, ps.length - k = m → k ≤ ps.length → M.getD k false = true → matP (ps.drop k) [] = true → M.getD ps.length false = true := by
      intro m
      induction m with
      | zero =>
        intro k h0 hk hm hu
        obtain rfl : k = ps.length := by omega
        exact hm
      | succ m ih =>
        intro k h0 hk hm hu
        have hk2 : k < ps.length := by omega
        obtain ⟨x, e1, e2, hx⟩ := drop_star ps k hk2
        rw [e1] at hu
        have hu2 : piecePc (matP (ps.drop (k + 1))) x [] = true := hu
        unfold piecePc at hu2
        by_cases h3 : x.1 = 0
        · rw [if_pos h3] at hu2; cases hu2
        · rw [if_neg h3] at hu2
          exact ih (k + 1) (by omega) (by omega) (hc k hk2 hm (by unfold star; rw [e2]; simpa using h3)) hu2
    exact key _ k rfl hk hm hu
end
/-! ### the compiler's pieces and the reference's -/
theorem zs_getD (i : Nat) : zs.getD i false = false := by
  rw [List.getD_eq_getElem?_getD]
  unfold zs
  rw [List.getElem?_replicate]
  split <;> rfl
theorem rngS_getD (f : List Bool) (a : Nat) : ∀ n, a + n ≤ f.length → ∀ i, (rngS f a n).getD i false = (f.getD i false || (decide (a ≤ i) && decide (i < a + n)))
  | 0, h, i => by
    have : (decide (a ≤ i) && decide (i < a + 0)) = false := by simp
    rw [this, Bool.or_false]
    rfl
  | n + 1, h, i => by
    rw [rngS_succ, getD_set, rngS_len, rngS_getD f a n (by omega) i]
    by_cases e : i = a + n
    · rw [if_pos ⟨e, by omega⟩, decide_eq_true (by omega : a ≤ i), decide_eq_true (by omega : i < a + (n + 1))]; simp
    · rw [if_neg (fun h => e h.1)]
      congr 2
      rw [decide_eq_decide]
      omega
theorem mk_len (ps : List (UInt8 × UInt8)) : (mk ps).length = 256 := by
  suffices h : ∀ (ps : List (UInt8 × UInt8)) (f : List Bool), f.length = 256 → (ps.foldl (fun f p => rngS f p.1.toNat (p.2.toNat + 1 - p.1.toNat)) f).length = 256 from h ps zs zs_len
  intro ps
  induction ps with
  | nil => intro f h; exact h
  | cons p ps ih => intro f h; exact ih _ (by rw [rngS_len]; exact h)
theorem mk_getD (ps : List (UInt8 × UInt8)) (d : UInt8) : (mk ps).getD d.toNat false = inR ps d := by
  suffices h : ∀ (ps : List (UInt8 × UInt8)) (f : List Bool), f.length = 256 → (ps.foldl (fun f p => rngS f p.1.toNat (p.2.toNat + 1 - p.1.toNat)) f).getD d.toNat false = (f.getD d.toNat false || inR ps d) by
    have := h ps zs zs_len
    rw [zs_getD, Bool.false_or] at this
    exact this
  intro ps
  induction ps with
  | nil => intro f h; simp [inR]
  | cons p ps ih =>
    intro f h
    have hp1 := p.1.toNat_lt
    have hp2 := p.2.toNat_lt
    rw [List.foldl_cons, ih _ (by rw [rngS_len]; exact h)]
    have e : (rngS f p.1.toNat (p.2.toNat + 1 - p.1.toNat)).getD d.toNat false = (f.getD d.toNat false || (decide (p.1.toNat ≤ d.toNat) && decide (d.toNat ≤ p.2.toNat))) := by
      by_cases hle : p.1.toNat ≤ p.2.toNat + 1
      · rw [rngS_getD f _ _ (by omega)]
        congr 2
        rw [decide_eq_decide]
        omega
      · rw [show p.2.toNat + 1 - p.1.toNat = 0 from by omega]
        have : (decide (p.1.toNat ≤ d.toNat) && decide (d.toNat ≤ p.2.toNat)) = false := by
          rw [Bool.and_eq_false_iff, decide_eq_false_iff_not, decide_eq_false_iff_not]; omega
        rw [this, Bool.or_false]
        rfl
    rw [e]
    simp [inR, Bool.or_assoc]
theorem flip_getD (f : List Bool) (hf : f.length = 256) (i : Nat) (hi : i < 256) : (flip f 256).getD i false = !f.getD i false := by
  unfold flip
  rw [List.take_of_length_le (by omega), List.drop_of_length_le (by omega), List.append_nil, List.getD_eq_getElem?_getD, List.getElem?_map, List.getD_eq_getElem?_getD, List.getElem?_eq_getElem (by omega)]
  rfl
theorem u47 (d : UInt8) : d.toNat = 47 ↔ d = 47 := ⟨fun h => by rw [← UInt8.toNat_inj]; exact h, fun h => by rw [h]; rfl⟩
theorem fin47_getD (ps : List (UInt8 × UInt8)) (nb : Bool) (d : UInt8) : (fin47 (mk ps) nb).getD d.toNat false = hasR ps nb d false := by
  have hd := d.toNat_lt
  unfold fin47 hasR
  rw [getD_set, Bool.or_false]
  by_cases h : d = 47
  · subst h
    have hl : (if nb = true then flip (mk ps) 256 else mk ps).length = 256 := by split <;> simp [flip_len, mk_len]
    rw [if_pos ⟨rfl, by rw [hl]; omega⟩]
    simp
  · rw [if_neg (fun e => h ((u47 d).1 e.1))]
    have h2 : (d != 47) = true := by simpa using h
    rw [h2, Bool.and_true]
    cases nb with
    | true => rw [if_pos rfl, flip_getD _ (mk_len ps) _ (by omega), mk_getD]; cases inR ps d <;> rfl
    | false => rw [if_neg (by decide), mk_getD]; cases inR ps d <;> rfl
theorem one_getD (c d : UInt8) : (zs.set c.toNat true).getD d.toNat false = decide (d = c) := by
  rw [getD_set, zs_getD, zs_len]
  have hc := c.toNat_lt
  by_cases h : d = c
  · rw [h, if_pos ⟨rfl, by omega⟩]; simp
  · rw [if_neg (fun e => h (UInt8.toNat_inj.1 e.1)), decide_eq_false h]
theorem inR_one (c d : UInt8) : inR [(c, c)] d = decide (d = c) := by
  simp only [inR, List.any_cons, List.any_nil, Bool.or_false]
  rw [Bool.eq_iff_iff, Bool.and_eq_true_iff, decide_eq_true_iff, decide_eq_true_iff, decide_eq_true_iff, ← UInt8.toNat_inj]
  omega
theorem qs_getD (d : UInt8) : (qs 256).getD d.toNat false = (d != 47) := by
  have hd := d.toNat_lt
  rw [List.getD_eq_getElem?_getD]
  unfold qs
  rw [List.getElem?_map, List.getElem?_range (by omega)]
  show (decide (d.toNat < 256) && d.toNat != 47) = _
  rw [decide_eq_true (by omega), Bool.true_and, Bool.eq_iff_iff, bne_iff_ne, bne_iff_ne]
  exact not_congr (u47 d)
/-- a piece of the compiler's stands for what a piece of the reference's does. -/
def Rep (c : UInt8) (x : RP) (p : Pc) : Prop := p.1 = x.1 ∧ (x.1 = 0 ∨ x.1 = 1 ∨ x.1 = 2) ∧ (x.1 = 0 → ∀ d : UInt8, p.2.getD d.toNat false = hasR x.2.1 x.2.2 d (plainB c))
theorem comp_step (k : Nat) (c : UInt8) (t : List UInt8) (ps : List Pc) :
    (fst (c :: t) = none ∧ compL (k + 1) (c :: t) ps = some none) ∨
    ∃ x rest p, fst (c :: t) = some (x, rest) ∧ Rep c x p ∧ compL (k + 1) (c :: t) ps = compL k rest (ps ++ [p]) := by
  by_cases e42 : c = 42
  · subst e42
    right
    rw [fst_42]
    unfold fst42
    by_cases h : t.head? = some 42
    · exact ⟨(2, [], false), t.tail, (2, zs), if_pos h, ⟨rfl, .inr (.inr rfl), fun h => absurd h (by decide)⟩, by simp only [compL]; rw [if_pos trivial, if_pos h]⟩
    · exact ⟨(1, [], false), t, (1, zs), if_neg h, ⟨rfl, .inr (.inl rfl), fun h => absurd h (by decide)⟩, by simp only [compL]; rw [if_pos trivial, if_neg h]⟩
  by_cases e63 : c = 63
  · subst e63
    right
    refine ⟨_, _, (0, qs 256), fst_63 t, ⟨rfl, .inl rfl, fun _ d => ?_⟩, by simp only [compL]; rw [if_neg (by decide), if_pos trivial]⟩
    show (qs 256).getD d.toNat false = _
    rw [qs_getD]
    show _ = ((inR [] d != true) && (d != 47 || plainB 63))
    cases (d != 47) <;> rfl
  by_cases e91 : c = 91
  · subst e91
    have hl := setStart_len t
    have hs := setLR (t.length + 2) (setStart t) [] (by omega)
    obtain ⟨r, hr⟩ := setR_some (t.length + 2) (setStart t) [] (by omega)
    rw [hr] at hs
    have hc : compL (k + 1) (91 :: t) ps = setK (compL k) t ps (setL (t.length + 2) true (setStart t) zs) := by
      simp only [compL]; rw [if_neg (by decide), if_neg (by decide), if_pos trivial]
    have hs2 : setL (t.length + 2) true (setStart t) zs = (some r).map fun o => o.map fun x => (x.1, mk x.2) := hs
    rw [hc, hs2, fst_91, hr]
    cases r with
    | none => left; exact ⟨rfl, rfl⟩
    | some y =>
      obtain ⟨l2, qs⟩ := y
      right
      refine ⟨(0, qs, setNot t), l2.tail, (0, fin47 (mk qs) (setNot t)), rfl, ⟨rfl, .inl rfl, fun _ d => ?_⟩, rfl⟩
      exact fin47_getD qs (setNot t) d
  by_cases e92 : c = 92
  · subst e92
    have hc : compL (k + 1) (92 :: t) ps = escK (compL k) ps t := by
      simp only [compL]; rw [if_neg (by decide), if_neg (by decide), if_neg (by decide), if_pos trivial]
    rw [hc, fst_92]
    cases t with
    | nil => left; exact ⟨rfl, rfl⟩
    | cons d2 t =>
      right
      refine ⟨(0, [(d2, d2)], false), t, (0, zs.set d2.toNat true), rfl, ⟨rfl, .inl rfl, fun _ d => ?_⟩, rfl⟩
      show (zs.set d2.toNat true).getD d.toNat false = ((inR [(d2, d2)] d != false) && (d != 47 || true))
      rw [one_getD, inR_one, Bool.or_true, Bool.and_true]
      cases decide (d = d2) <;> rfl
  · right
    refine ⟨_, _, (0, zs.set c.toNat true), fst_o t e42 e63 e92 e91, ⟨rfl, .inl rfl, fun _ d => ?_⟩, by simp only [compL]; rw [if_neg e42, if_neg e63, if_neg e91, if_neg e92]⟩
    show (zs.set c.toNat true).getD d.toNat false = ((inR [(c, c)] d != false) && (d != 47 || plainB c))
    have : plainB c = true := by
      unfold plainB
      have h1 : (c != 63) = true := by simpa using e63
      have h2 : (c != 91) = true := by simpa using e91
      rw [h1, h2]; rfl
    rw [one_getD, inR_one, this, Bool.or_true, Bool.and_true]
    cases decide (d = c) <;> rfl
theorem starR_congr (f g : List UInt8 → Bool) (h : ∀ u, f u = g u) (kd : Int) (u : List UInt8) : starR f kd u = starR g kd u := by
  rw [funext h]
/-- the compiler and the reference say alike: whether a pattern is right, and what it matches. -/
theorem comp_ref : ∀ (k : Nat) (l : List UInt8) (ps : List Pc) (xs : List RP), l.length < k →
    (compL k l ps = some none ∧ pcL k l xs = some none) ∨
    ∃ qs ys, compL k l ps = some (some (ps ++ qs)) ∧ pcL k l xs = some (some ys) ∧ okL k l = true ∧ (∀ x ∈ qs, x.1 = 0 ∨ x.1 = 1 ∨ x.1 = 2) ∧ qs.length ≤ l.length ∧ ∀ u, matR k l u = matP qs u
  | 0, l, ps, xs, h => by omega
  | k + 1, [], ps, xs, h => .inr ⟨[], xs, by simp [compL], rfl, rfl, fun x hx => by simp at hx, Nat.le_refl _, fun u => rfl⟩
  | k + 1, c :: t, ps, xs, h => by
    rcases comp_step k c t ps with ⟨h1, h2⟩ | ⟨x, rest, p, h1, h2, h3⟩
    · left; refine ⟨h2, ?_⟩; simp only [pcL]; rw [h1]
    · have hr := fst_len c t x rest h1
      simp only [List.length_cons] at h
      rcases comp_ref k rest (ps ++ [p]) (xs ++ [x]) (by omega) with ⟨h4, h5⟩ | ⟨qs, ys, h4, h5, h6, h7, h8, h9⟩
      · left; refine ⟨h3.trans h4, ?_⟩; simp only [pcL]; rw [h1]; exact h5
      · right
        refine ⟨p :: qs, ys, by rw [h3, h4, List.append_assoc]; rfl, by simp only [pcL]; rw [h1]; exact h5, by simp only [okL]; rw [h1]; exact h6, ?_, by simp; omega, ?_⟩
        · intro y hy
          rcases List.mem_cons.1 hy with rfl | hy
          · rw [h2.1]; exact h2.2.1
          · exact h7 y hy
        · intro u
          have e1 : matR (k + 1) (c :: t) u = pieceR (matR k rest) x (plainB c) u := by simp only [matR]; rw [h1]
          rw [e1]
          show _ = piecePc (matP qs) p u
          unfold pieceR piecePc
          rw [funext h9, h2.1]
          by_cases h0 : x.1 = 0
          · rw [if_pos h0, if_pos h0]
            cases u with
            | nil => rfl
            | cons d u =>
              show (hasR x.2.1 x.2.2 d (plainB c) && _) = (p.2.getD d.toNat false && _)
              rw [h2.2.2 h0 d]
          · rw [if_neg h0, if_neg h0]
end Go.Proofs.Ytkgldphpkglcmaa.Gl
