/- the reference's reading of a pattern, plain; and the reference's member. -/
import Derived.Test.YtkgldphpkglcmaaGlF
namespace Go.Proofs.Ytkgldphpkglcmaa.Gl
open Go.RowKit Go.Proofs.YtkgldphpkglcmaaW.PrintWords Go.Proofs.YtkgldphpkglcmaaW.PrintLast Go.Proofs.YtkgldphpkglcmaaW.PrintMore
set_option linter.unusedSimpArgs false
set_option linter.unusedVariables false
/-- a place in a text, and what lies from there on. -/
structure Pos (s : ByteArray) (n : Nat) (l : List UInt8) : Prop where
  dr : s.data.toList.drop n = l
  le : n ≤ s.size
section
variable {s : ByteArray} {n : Nat} {l t : List UInt8} {c d : UInt8}
theorem Pos.len (h : Pos s n l) : n + l.length = s.size := by
  have h1 := h.le
  rw [← h.dr, List.length_drop, data_length]
  omega
theorem Pos.lt (h : Pos s n (c :: t)) : n < s.size := by have := h.len; simp at this; omega
theorem Pos.at (h : Pos s n (c :: t)) (hn : n < s.size) : s[n]'hn = c := by
  have h1 : s.data.toList[n]? = some c := by
    have := congrArg (fun l : List UInt8 => l[0]?) h.dr
    simpa using this
  rw [List.getElem?_eq_getElem (by rw [data_length]; exact hn)] at h1
  injection h1
theorem Pos.next (h : Pos s n (c :: t)) : Pos s (n + 1) t := by
  refine ⟨?_, h.lt⟩
  have := congrArg List.tail h.dr
  rw [List.tail_drop] at this
  exact this
theorem Pos.bt (h : Pos s n (c :: t)) : bt s (n : Int) = (c.toNat : Int) := by
  rw [← bt_at s (n : Int) (by have := h.lt; simpa using this)]
  have := h.at h.lt
  simp only [Int.toNat_natCast]
  rw [this]
theorem Pos.zero (s : ByteArray) : Pos s 0 s.data.toList := ⟨rfl, Nat.zero_le _⟩
end
theorem u8_ne (c : UInt8) (n : Nat) (hn : n < 256) (h : c ≠ UInt8.ofNat n) : (c.toNat : Int) ≠ (n : Int) := fun e => by
  have := u8_eq c n hn
  rw [e] at this
  simp at this
  exact h this
def MemPost (s : ByteArray) (w w' : World) (e : Ending) (l : List UInt8) : Prop :=
  ∃ v : Int, e = .returned (.tuple #[.int .u8 ((if memB l then 0 else (memC l).toNat : Nat) : Int), .int .i64 v]) ∧ Below w.heap.size w w' ∧ (memB l = true → v = -1) ∧ (memB l = false → ∃ n2 : Nat, v = n2 ∧ Pos s n2 (memR l))
theorem member_ref (s : ByteArray) (n : Nat) (l : List UInt8) (h : Pos s n l) (hs : s.size ≤ 1000) (w : World) :
    Calls Try.prog 26 #[.string s, .int .i64 (n : Int)] w fun e w' => MemPost s w w' e l := by
  have key : ∃ v : Int, P.oakumref25_member.f 1 s n = some ((((if memB l then 0 else (memC l).toNat : Nat)) : Int), v) ∧ (memB l = true → v = -1) ∧ (memB l = false → ∃ n2 : Nat, v = n2 ∧ Pos s n2 (memR l)) := by
    have hle := h.le
    have hw : ∀ k : Nat, k ≤ 2000 → wrap64 (k : Int) = (k : Int) := fun k hk => by unfold wrap64; omega
    cases l with
    | nil =>
      have := h.len
      simp at this
      refine ⟨-1, ?_, fun _ => rfl, fun hb => by simp [memB] at hb⟩
      unfold P.oakumref25_member.f
      rw [if_pos (by omega)]
      simp [P.oakumref25_member.j0, memB]
    | cons c t =>
      have hlt := h.lt
      have hb := h.bt
      by_cases h93 : c = 93
      · subst h93
        refine ⟨-1, ?_, fun _ => rfl, fun hb => by simp [memB] at hb⟩
        unfold P.oakumref25_member.f
        rw [if_neg (by omega), if_pos (by omega), if_pos (by omega), hb, if_pos (by decide)]
        simp [P.oakumref25_member.j0, memB]
      have n93 := u8_ne c 93 (by omega) h93
      by_cases h45 : c = 45
      · subst h45
        refine ⟨-1, ?_, fun _ => rfl, fun hb => by simp [memB] at hb⟩
        unfold P.oakumref25_member.f
        rw [if_neg (by omega), if_pos (by omega), if_pos (by omega), hb, if_neg (by decide)]
        simp [P.oakumref25_member.j0, memB]
      have n45 := u8_ne c 45 (by omega) h45
      have e1 : P.oakumref25_member.f 1 s n = P.oakumref25_member.j0 1 s n false := by
        unfold P.oakumref25_member.f
        rw [if_neg (by omega), if_pos (by omega), if_pos (by omega), hb, if_neg (by exact n93), show ((c.toNat : Int) == 45) = false from beq_eq_false_iff_ne.2 n45]
      rw [e1]
      have e9 : P.oakumref25_member.j0 1 s n false = (if (c.toNat : Int) = 92 then (if (wrap64 ((n : Int) + 1)) ≥ (s.size : Int) then (some (0, (-1))) else (if 0 ≤ (wrap64 ((n : Int) + 1)) then (if (wrap64 ((n : Int) + 1)) < (s.size : Int) then (some (bt s (wrap64 ((n : Int) + 1)), wrap64 ((n : Int) + 2))) else (none)) else (none))) else (some ((c.toNat : Int), wrap64 ((n : Int) + 1)))) := by
        simp only [P.oakumref25_member.j0]
        rw [if_neg (by decide), if_pos (by omega), if_pos (by omega), hb]
      rw [e9]
      by_cases h92 : c = 92
      · subst h92
        rw [if_pos (by decide)]
        have e2 : ((n : Int) + 1) = ((n + 1 : Nat) : Int) := by omega
        have e3 : ((n : Int) + 2) = ((n + 2 : Nat) : Int) := by omega
        rw [e2, e3, hw (n + 1) (by omega), hw (n + 2) (by omega)]
        cases t with
        | nil =>
          have := h.len
          simp at this
          refine ⟨-1, ?_, fun _ => rfl, fun hb => by simp [memB] at hb⟩
          rw [if_pos (by omega)]
          simp [memB]
        | cons d t =>
          have h2 := h.next
          have hlt2 := h2.lt
          refine ⟨((n + 2 : Nat) : Int), ?_, fun hb => by simp [memB] at hb, fun _ => ⟨n + 2, rfl, ?_⟩⟩
          · rw [if_neg (by omega), if_pos (by omega), if_pos (by omega), h2.bt]
            simp [memB, memC, tkC]
          · exact h2.next
      have n92 := u8_ne c 92 (by omega) h92
      have hmb : memB (c :: t) = false := by simp [memB, h92, h93, h45]
      rw [if_neg (by exact n92)]
      have e2 : ((n : Int) + 1) = ((n + 1 : Nat) : Int) := by omega
      rw [e2, hw (n + 1) (by omega)]
      refine ⟨((n + 1 : Nat) : Int), ?_, fun hb => absurd hb (by rw [hmb]; decide), fun _ => ⟨n + 1, rfl, ?_⟩⟩
      · rw [hmb]; simp [memC, h92, tkC]
      · have : memR (c :: t) = t := by simp [memR, h92]
        rw [this]
        exact h.next
  obtain ⟨v, hf, h1, h2⟩ := key
  refine (P.oakumref25_member.calls 1 s n _ _ w hf).mono ?_
  rintro e w' ⟨rfl, hd⟩
  exact ⟨v, rfl, hd.below, h1, h2⟩
/-! ### the first piece, plain -/
/-- a piece as the reference has it: its kind, its parts, whether it is turned. -/
abbrev RP := Int × List (UInt8 × UInt8) × Bool
def setR : Nat → List UInt8 → List (UInt8 × UInt8) → Option (Option (List UInt8 × List (UInt8 × UInt8)))
  | 0, _, _ => none
  | k + 1, l, ps => if ps ≠ [] ∧ (l = [] ∨ l.head? = some 93) then some (if l = [] then none else some (l, ps)) else
    if partBad l = true then some none else setR k (partR l) (ps ++ [(partLo l, partHi l)])
def fst : List UInt8 → Option (RP × List UInt8)
  | [] => none
  | c :: t =>
    if c = 42 then (if t.head? = some 42 then some ((2, [], false), t.tail) else some ((1, [], false), t))
    else if c = 63 then some ((0, [], true), t)
    else if c = 92 then (match t with | [] => none | d :: t' => some ((0, [(d, d)], false), t'))
    else if c = 91 then (match setR (t.length + 2) (setStart t) [] with | some (some (l2, ps)) => some ((0, ps, setNot t), l2.tail) | _ => none)
    else some ((0, [(c, c)], false), t)
theorem memR_lt (l : List UInt8) (h : l ≠ []) : (memR l).length + 1 ≤ l.length := by
  cases l with
  | nil => exact absurd rfl h
  | cons c t => unfold memR; split <;> simp
theorem partR_lt (l : List UInt8) (h : l ≠ []) : (partR l).length + 1 ≤ l.length := by
  unfold partR
  have h1 := memR_lt l h
  split
  · have h2 := memR_len (memR l).tail
    simp at h2
    omega
  · exact h1
theorem partBad_nil : partBad [] = true := by decide
theorem setR_some : ∀ (k : Nat) (l : List UInt8) (ps : List (UInt8 × UInt8)), l.length < k → ∃ r, setR k l ps = some r
  | 0, l, ps, h => by omega
  | k + 1, l, ps, h => by
    simp only [setR]
    split
    · exact ⟨_, rfl⟩
    · split
      · exact ⟨_, rfl⟩
      · rename_i hb
        have hl : l ≠ [] := fun e => hb (by rw [e]; exact partBad_nil)
        have := partR_lt l hl
        exact setR_some k _ _ (by omega)
theorem setL_some : ∀ (k : Nat) (b : Bool) (l : List UInt8) (f : List Bool), l.length < k → ∃ r, setL k b l f = some r
  | 0, b, l, f, h => by omega
  | k + 1, b, l, f, h => by
    simp only [setL]
    split
    · exact ⟨_, rfl⟩
    · split
      · exact ⟨_, rfl⟩
      · rename_i hb
        have hl : l ≠ [] := fun e => hb (by rw [e]; exact partBad_nil)
        have := partR_lt l hl
        exact setL_some k _ _ _ (by omega)
/-- the set that parts make. -/
def mk (ps : List (UInt8 × UInt8)) : List Bool := ps.foldl (fun f p => rngS f p.1.toNat (p.2.toNat + 1 - p.1.toNat)) zs
theorem mk_snoc (ps : List (UInt8 × UInt8)) (p : UInt8 × UInt8) : mk (ps ++ [p]) = rngS (mk ps) p.1.toNat (p.2.toNat + 1 - p.1.toNat) := by simp [mk]
theorem setL_end {k : Nat} {b : Bool} {l : List UInt8} {f : List Bool} (h : b = false ∧ l.head? = some 93) : setL (k + 1) b l f = some (some (l, f)) := by simp only [setL]; exact if_pos h
theorem setL_bad {k : Nat} {b : Bool} {l : List UInt8} {f : List Bool} (h : ¬ (b = false ∧ l.head? = some 93)) (hb : partBad l = true) : setL (k + 1) b l f = some none := by simp only [setL]; rw [if_neg h]; exact if_pos hb
theorem setL_go {k : Nat} {b : Bool} {l : List UInt8} {f : List Bool} (h : ¬ (b = false ∧ l.head? = some 93)) (hb : ¬ partBad l = true) : setL (k + 1) b l f = setL k false (partR l) (rngS f (partLo l).toNat ((partHi l).toNat + 1 - (partLo l).toNat)) := by simp only [setL]; rw [if_neg h]; exact if_neg hb
theorem setR_end {k : Nat} {l : List UInt8} {ps : List (UInt8 × UInt8)} (h : ps ≠ []) (hl : l ≠ []) (h2 : l.head? = some 93) : setR (k + 1) l ps = some (some (l, ps)) := by simp only [setR]; rw [if_pos ⟨h, .inr h2⟩, if_neg hl]
theorem setR_nil {k : Nat} {ps : List (UInt8 × UInt8)} (h : ps ≠ []) : setR (k + 1) [] ps = some none := by simp [setR, h]
theorem setR_bad {k : Nat} {l : List UInt8} {ps : List (UInt8 × UInt8)} (h : ¬ (ps ≠ [] ∧ (l = [] ∨ l.head? = some 93))) (hb : partBad l = true) : setR (k + 1) l ps = some none := by simp only [setR]; rw [if_neg h]; exact if_pos hb
theorem setR_go {k : Nat} {l : List UInt8} {ps : List (UInt8 × UInt8)} (h : ¬ (ps ≠ [] ∧ (l = [] ∨ l.head? = some 93))) (hb : ¬ partBad l = true) : setR (k + 1) l ps = setR k (partR l) (ps ++ [(partLo l, partHi l)]) := by simp only [setR]; rw [if_neg h]; exact if_neg hb
/-- both readings of a set go alike. -/
theorem setLR : ∀ (k : Nat) (l : List UInt8) (ps : List (UInt8 × UInt8)) , l.length < k →
    setL k (ps.isEmpty) l (mk ps) = (setR k l ps).map fun o => o.map fun x => (x.1, mk x.2)
  | 0, l, ps, h => by omega
  | k + 1, l, ps, h => by
    have step : ¬ partBad l = true → setL k false (partR l) (rngS (mk ps) (partLo l).toNat ((partHi l).toNat + 1 - (partLo l).toNat)) = (setR k (partR l) (ps ++ [(partLo l, partHi l)])).map fun o => o.map fun x => (x.1, mk x.2) := fun hb => by
      have hl : l ≠ [] := fun e => hb (by rw [e]; exact partBad_nil)
      have := partR_lt l hl
      have ih := setLR k (partR l) (ps ++ [(partLo l, partHi l)]) (by omega)
      rw [mk_snoc] at ih
      have e2 : (ps ++ [(partLo l, partHi l)]).isEmpty = false := by cases ps <;> rfl
      rw [e2] at ih
      exact ih
    by_cases h1 : ps = []
    · have n1 : ¬ (ps.isEmpty = false ∧ l.head? = some 93) := by rw [h1]; simp
      have n2 : ¬ (ps ≠ [] ∧ (l = [] ∨ l.head? = some 93)) := fun h => h.1 h1
      by_cases hb : partBad l = true
      · rw [setL_bad n1 hb, setR_bad n2 hb]; rfl
      · rw [setL_go n1 hb, setR_go n2 hb]; exact step hb
    · have e1 : ps.isEmpty = false := by cases ps with | nil => exact absurd rfl h1 | cons a t => rfl
      rw [e1]
      by_cases h2 : l = []
      · subst h2
        rw [setL_bad (fun h => by simp at h) partBad_nil, setR_nil h1]
        rfl
      · by_cases h3 : l.head? = some 93
        · rw [setL_end ⟨rfl, h3⟩, setR_end h1 h2 h3]
          rfl
        · have n1 : ¬ (false = false ∧ l.head? = some 93) := fun h => h3 h.2
          have n2 : ¬ (ps ≠ [] ∧ (l = [] ∨ l.head? = some 93)) := fun h => h.2.elim h2 h3
          by_cases hb : partBad l = true
          · rw [setL_bad n1 hb, setR_bad n2 hb]; rfl
          · rw [setL_go n1 hb, setR_go n2 hb]; exact step hb
end Go.Proofs.Ytkgldphpkglcmaa.Gl
