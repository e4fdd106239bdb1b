/- A part of the proof: its steps, joined out of smaller texts. -/
import Derived.Test.YtejdmofljifkbaaGreatDoorLa7
namespace Go.Proofs.YtejdmofljifkbaaGreatDoor.P
open Go.RowKit Go.Proofs.YtejdmofljifkbaaGreatDoorW.PrintWords Go.Proofs.YtejdmofljifkbaaGreatDoorW.PrintLast Go.Proofs.YtejdmofljifkbaaGreatDoorW.PrintMore
abbrev Pr := S65
def kx (x : Pr) : List UInt8 := x.f0.data.toList
def vx (x : Pr) : List UInt8 := x.f1.data.toList
theorem less_cons (a b : UInt8) (x y : List UInt8) : Op.bytesLess (a :: x) (b :: y) = (decide (a < b) || (a == b && Op.bytesLess x y)) := rfl
theorem less_irr : ∀ a : List UInt8, Op.bytesLess a a = false
 | [] => rfl
 | a :: x => by rw [less_cons, less_irr x]; simp [UInt8.lt_irrefl]
theorem less_tr : ∀ {a b c : List UInt8}, Op.bytesLess a b = true → Op.bytesLess b c = true → Op.bytesLess a c = true
 | [], [], _, h, _ => by cases h
 | _ :: _, [], _, h, _ => by cases h
 | _, _ :: _, [], _, h => by cases h
 | [], _ :: _, _ :: _, _, _ => rfl
 | a :: x, b :: y, c :: z, h1, h2 => by
  rw [less_cons] at h1 h2 ⊢
  simp only [Bool.or_eq_true, decide_eq_true_eq, Bool.and_eq_true, beq_iff_eq] at h1 h2 ⊢
  rcases h1 with h1 | ⟨rfl, h1⟩
  ·rcases h2 with h2 | ⟨rfl, h2⟩
   ·exact .inl (UInt8.lt_trans h1 h2)
   ·exact .inl h1
  ·rcases h2 with h2 | ⟨rfl, h2⟩
   ·exact .inl h2
   ·exact .inr ⟨rfl, less_tr h1 h2⟩
theorem less_tot {a b : List UInt8} (h1 : Op.bytesLess a b = false) (h2 : Op.bytesLess b a = false) : a = b := by
 have := less_total a b
 rw [h1, h2] at this
 simpa using this
def Sorted (l : List Pr) : Prop := l.Pairwise (fun x y => Op.bytesLess (kx x) (kx y) = true) ∧ ∀ x ∈ l, vx x ≠ []
def sortF : Option (List UInt8) → List Pr → Bool
 | _, [] => true
 | p, x :: t => (match p with | none => true | some q => Op.bytesLess q (kx x)) && (!(vx x).isEmpty && sortF (some (kx x)) t)
theorem sortF_some : ∀ (l : List Pr) (q : List UInt8), sortF (some q) l = true ↔ (∀ x ∈ l, Op.bytesLess q (kx x) = true) ∧ Sorted l
 | [], q => by simp [sortF, Sorted]
 | x :: t, q => by
  have ih := sortF_some t (kx x)
  unfold sortF
  simp only [Bool.and_eq_true, ih]
  unfold Sorted
  simp only [List.pairwise_cons, List.mem_cons, forall_eq_or_imp]
  constructor
  ·rintro ⟨h1, h2, h3, h4, h5⟩
   refine ⟨⟨h1, fun y hy => less_tr h1 (h3 y hy)⟩, ⟨h3, h4⟩, ?_, h5⟩
   intro e
   rw [e] at h2
   cases h2
  ·rintro ⟨⟨h1, _⟩, ⟨h3, h4⟩, h5, h6⟩
   refine ⟨h1, ?_, h3, h4, h6⟩
   cases h : vx x with
   | nil => exact absurd h h5
   | cons _ _ => rfl
theorem sortF_none (l : List Pr) : sortF none l = true ↔ Sorted l := by
 cases l with
 | nil => simp [sortF, Sorted]
 | cons x t =>
  have ih := sortF_some t (kx x)
  unfold sortF
  simp only [Bool.and_eq_true, ih, true_and]
  unfold Sorted
  simp only [List.pairwise_cons, List.mem_cons, forall_eq_or_imp]
  constructor
  ·rintro ⟨h2, h3, h4, h5⟩
   refine ⟨⟨h3, h4⟩, ?_, h5⟩
   intro e
   rw [e] at h2
   cases h2
  ·rintro ⟨⟨h3, h4⟩, h5, h6⟩
   refine ⟨?_, h3, h4, h6⟩
   cases h : vx x with
   | nil => exact absurd h h5
   | cons _ _ => rfl
theorem rd_at (l : List Pr) (i : Nat) (hi : i < l.length) : rd_T65 l (i : Int) = l[i] := by
 unfold rd_T65
 rw [Int.toNat_natCast, List.getD_eq_getElem?_getD, List.getElem?_eq_getElem hi]
 rfl
def Small (l : List Pr) (F : Nat) : Prop := l.length ≤ 2097152 ∧ ∀ x ∈ l, x.f0.size ≤ 2097152 ∧ x.f1.size ≤ 2097152 ∧ x.f0.size + 2 * x.f1.size + 100 ≤ F
def pOK (x : Pr) : Bool := pairOK (kx x) (vx x)
def overOK (l : List Pr) : Bool := l.all pOK && sortF none l
theorem over_l0 (l : List Pr) (F : Nat) (hs : Small l F) : ∀ (m : List Pr) (i k : Nat), l.drop i = m → m.length + F < k →
  over_Right.l0 k l l (l.length : Int) (i : Int) = some (m.all pOK && sortF (if i = 0 then none else some (kx (l.getD (i - 1) z65))) m)
 | [], i, k, hd, hk => by
  obtain ⟨k, rfl⟩ : ∃ j, k = j + 1 := ⟨k - 1, by omega⟩
  have : l.length ≤ i := List.drop_eq_nil_iff.1 hd
  simp only [over_Right.l0]
  rw [if_neg (by omega)]
  rfl
 | x :: m, i, k, hd, hk => by
  obtain ⟨k, rfl⟩ : ∃ j, k = j + 1 := ⟨k - 1, by omega⟩
  have hi : i < l.length := by
   have := congrArg List.length hd
   simp at this
   omega
  have h2 := List.drop_eq_getElem_cons hi
  rw [hd] at h2
  injection h2 with hx ht
  have hr := rd_at l i hi
  rw [← hx] at hr
  have hmem : x ∈ l := hx ▸ List.getElem_mem hi
  obtain ⟨s1, s2, s3⟩ := hs.2 x hmem
  have hn := hs.1
  have ih := over_l0 l F hs m (i + 1) k ht.symm (by simp only [List.length_cons] at hk; omega)
  rw [if_neg (Nat.succ_ne_zero i), Nat.add_sub_cancel, show l.getD i z65 = x by rw [List.getD_eq_getElem?_getD, List.getElem?_eq_getElem hi, ← hx]; rfl] at ih
  simp only [over_Right.l0]
  rw [if_pos (by omega), if_pos (by omega), if_pos (by omega), hr]
  rw [show (i : Int) + 1 = ((i + 1 : Nat) : Int) by omega, w64n _ (by omega), ih]
  rw [pair_prog x.f0 x.f1 s1 s2 k (by omega), Option.bind_some]
  simp only [Lib.toList_data, List.all_cons]
  rw [show pOK x = pairOK x.f0.data.toList x.f1.data.toList from rfl]
  by_cases hv : x.f1.data.toList = []
  ·rw [if_pos hv]
   unfold sortF
   rw [show (vx x).isEmpty = true by unfold vx; rw [hv]; rfl]
   simp
  ·rw [if_neg hv]
   have hve : (vx x).isEmpty = false := by
    unfold vx
    cases h : x.f1.data.toList with
    | nil => exact absurd h hv
    | cons _ _ => rfl
   cases hp : pairOK x.f0.data.toList x.f1.data.toList with
   | false => simp
   | true =>
    simp only [if_true, Bool.true_and]
    rw [show sortF (if i = 0 then none else some (kx (l.getD (i - 1) z65))) (x :: m) = ((match (if i = 0 then none else some (kx (l.getD (i - 1) z65))) with | none => true | some q => Op.bytesLess q (kx x)) && (!(vx x).isEmpty && sortF (some (kx x)) m)) from rfl, hve]
    by_cases h0 : i = 0
    ·rw [if_neg (by omega), if_pos h0]
     simp
    ·have hi1 : i - 1 < l.length := by omega
     have hr1 := rd_at l (i - 1) hi1
     rw [if_pos (by omega), if_neg h0, show (i : Int) - 1 = ((i - 1 : Nat) : Int) by omega, w64n _ (by omega), if_pos (by omega), if_pos (by omega), hr1]
     rw [show l.getD (i - 1) z65 = l[i - 1] by rw [List.getD_eq_getElem?_getD, List.getElem?_eq_getElem hi1]; rfl]
     show (if Op.bytesLess (kx l[i - 1]) (kx x) = true then _ else _) = some (m.all pOK && (Op.bytesLess (kx l[i - 1]) (kx x) && (!false && sortF (some (kx x)) m)))
     generalize Op.bytesLess (kx l[i - 1]) (kx x) = b
     cases b
     ·rw [if_neg (by simp), Bool.false_and, Bool.and_false]
     ·rw [if_pos rfl, Bool.true_and, Bool.not_false, Bool.true_and]
theorem over_prog (l : List Pr) (F : Nat) (hs : Small l F) (k : Nat) (hk : l.length + F < k) : over_Right.f k l = some (overOK l) := by
 unfold over_Right.f overOK
 have := over_l0 l F hs l 0 k rfl hk
 rw [if_pos rfl] at this
 exact this
def gtB (first : Bool) (ahead : ByteArray) (x : Pr) : Bool := first || Op.bytesLess ahead.data.toList (kx x)
def scan (first : Bool) (ahead : ByteArray) : List Pr → Bool → ByteArray → Bool × ByteArray
 | [], fd, q => (fd, q)
 | x :: t, fd, q => if (gtB first ahead x && (!fd || Op.bytesLess (kx x) q.data.toList)) = true then scan first ahead t true x.f0 else scan first ahead t fd q
theorem scan_spec (first : Bool) (ahead : ByteArray) : ∀ (l : List Pr) (fd : Bool) (q : ByteArray),
  ((scan first ahead l fd q).1 = false → fd = false ∧ ∀ x ∈ l, gtB first ahead x = false) ∧
  ((scan first ahead l fd q).1 = true → ((fd = true ∧ (scan first ahead l fd q).2 = q) ∨ ∃ x ∈ l, gtB first ahead x = true ∧ (scan first ahead l fd q).2 = x.f0) ∧
   (∀ x ∈ l, gtB first ahead x = true → Op.bytesLess (kx x) (scan first ahead l fd q).2.data.toList = false) ∧ (fd = true → Op.bytesLess q.data.toList (scan first ahead l fd q).2.data.toList = false))
 | [], fd, q => by
  refine ⟨fun h => ⟨h, by simp⟩, fun h => ⟨.inl ⟨h, rfl⟩, by simp, fun _ => less_irr _⟩⟩
 | x :: t, fd, q => by
  unfold scan
  by_cases hc : (gtB first ahead x && (!fd || Op.bytesLess (kx x) q.data.toList)) = true
  ·rw [if_pos hc]
   obtain ⟨i1, i2⟩ := scan_spec first ahead t true x.f0
   simp only [Bool.and_eq_true, Bool.or_eq_true, Bool.not_eq_true'] at hc
   obtain ⟨g, hc⟩ := hc
   refine ⟨fun h => absurd (i1 h).1 (by simp), fun h => ?_⟩
   obtain ⟨j1, j2, j3⟩ := i2 h
   have hx := j3 rfl
   refine ⟨.inr ?_, ?_, ?_⟩
   ·rcases j1 with ⟨_, e⟩ | ⟨y, hy, e1, e2⟩
    ·exact ⟨x, List.mem_cons_self .., g, e⟩
    ·exact ⟨y, List.mem_cons_of_mem _ hy, e1, e2⟩
   ·intro y hy gy
    rcases List.mem_cons.1 hy with rfl | hy
    ·exact hx
    ·exact j2 y hy gy
   ·intro hfd
    rcases hc with hc | hc
    ·rw [hfd] at hc; cases hc
    ·cases hq : Op.bytesLess q.data.toList (scan first ahead t true x.f0).2.data.toList with
     | false => rfl
     | true =>
      have := less_tr hc hq
      rw [show kx x = x.f0.data.toList from rfl] at this
      rw [this] at hx
      cases hx
  ·rw [if_neg hc]
   obtain ⟨i1, i2⟩ := scan_spec first ahead t fd q
   rw [Bool.not_eq_true, Bool.and_eq_false_iff] at hc
   refine ⟨fun h => ⟨(i1 h).1, ?_⟩, fun h => ?_⟩
   ·intro y hy
    rcases List.mem_cons.1 hy with rfl | hy
    ·rcases hc with hc | hc
     ·exact hc
     ·rw [(i1 h).1] at hc; cases hc
    ·exact (i1 h).2 y hy
   ·obtain ⟨j1, j2, j3⟩ := i2 h
    refine ⟨?_, ?_, j3⟩
    ·rcases j1 with j1 | ⟨y, hy, e1, e2⟩
     ·exact .inl j1
     ·exact .inr ⟨y, List.mem_cons_of_mem _ hy, e1, e2⟩
    ·intro y hy gy
     rcases List.mem_cons.1 hy with rfl | hy
     ·rcases hc with hc | hc
      ·rw [hc] at gy; cases gy
      ·rw [Bool.or_eq_false_iff] at hc
       obtain ⟨c1, c2⟩ := hc
       have hfd : fd = true := by simpa using c1
       have hq := j3 hfd
       cases hlt : Op.bytesLess (kx y) (scan first ahead t fd q).2.data.toList with
       | false => rfl
       | true =>
        by_cases he : kx y = q.data.toList
        ·rw [← he, hlt] at hq; cases hq
        ·have : Op.bytesLess q.data.toList (kx y) = true := by
          cases h3 : Op.bytesLess q.data.toList (kx y) with
          | true => rfl
          | false => exact absurd (less_tot c2 h3) he
         rw [less_tr this hlt] at hq; cases hq
     ·exact j2 y hy gy
def layEnd (k : Nat) (l acc : List Pr) (ahead : ByteArray) (p : Bool × ByteArray) : Option (List Pr) :=
 if p.1 = true then ((oakumref08_Last.f k l p.2).bind fun bt271 => (if bt271.2 = true then (if acc.length < 4398046511104 then (oakumref08_Lay.l0 k l (acc ++ [(⟨p.2, bt271.1⟩ : Pr)]) p.2 false) else (none)) else (oakumref08_Lay.l0 k l acc p.2 false))) else (some acc)
theorem lay_l1 (l acc : List Pr) (hl : l.length ≤ 2097152) (ahead : ByteArray) (first : Bool) : ∀ (m : List Pr) (i k : Nat) (fd : Bool) (q : ByteArray), l.drop i = m →
  oakumref08_Lay.l1 (k + m.length + 1) l acc ahead first q fd (i : Int) = layEnd k l acc ahead (scan first ahead m fd q)
 | [], i, k, fd, q, hd => by
  have : l.length ≤ i := List.drop_eq_nil_iff.1 hd
  show oakumref08_Lay.l1 (k + 1) l acc ahead first q fd (i : Int) = _
  simp only [oakumref08_Lay.l1]
  rw [if_neg (by omega)]
  rfl
 | x :: m, i, k, fd, q, hd => by
  have hi : i < l.length := by
   have := congrArg List.length hd
   simp at this
   omega
  have h2 := List.drop_eq_getElem_cons hi
  rw [hd] at h2
  injection h2 with hx ht
  have hr := rd_at l i hi
  rw [← hx] at hr
  have ih := fun fd q => lay_l1 l acc hl ahead first m (i + 1) k fd q ht.symm
  rw [show k + (x :: m).length + 1 = (k + m.length + 1) + 1 by rw [List.length_cons]; omega]
  generalize k + m.length + 1 = K at ih ⊢
  unfold scan gtB
  simp only [oakumref08_Lay.l1]
  rw [if_pos (by omega), if_pos (by omega), hr, show (i : Int) + 1 = ((i + 1 : Nat) : Int) by omega, w64n _ (by omega)]
  simp only [ih, Lib.toList_data]
  rw [show x.f0.data.toList = kx x from rfl]
  cases first with
  | true =>
   simp only [if_true, Bool.true_or, Bool.true_and]
   cases fd with
   | false => simp
   | true => simp only [if_true, Bool.not_true, Bool.false_or]; split <;> rfl
  | false =>
   simp only [Bool.false_eq_true, if_false, Bool.false_or]
   cases hg : Op.bytesLess ahead.data.toList (kx x) with
   | false => simp
   | true =>
    simp only [if_true, Bool.true_and]
    cases fd with
    | false => simp
    | true => simp only [if_true, Bool.not_true, Bool.false_or]; split <;> rfl
def lastF (q : List UInt8) : List Pr → ByteArray × Bool
 | [] => (⟨#[]⟩, false)
 | x :: t => if kx x = q then (x.f1, (vx x != [])) else lastF q t
theorem last_l0 (l : List Pr) (hl : l.length ≤ 2097152) (q : ByteArray) : ∀ (n k : Nat), n ≤ l.length → n < k → oakumref08_Last.l0 k l q ((n : Int) - 1) = some (lastF q.data.toList (l.take n).reverse)
 | 0, k, _, hk => by
  obtain ⟨k, rfl⟩ : ∃ j, k = j + 1 := ⟨k - 1, by omega⟩
  simp only [oakumref08_Last.l0]
  rw [if_neg (by omega)]
  rfl
 | n + 1, k, hn, hk => by
  obtain ⟨k, rfl⟩ : ∃ j, k = j + 1 := ⟨k - 1, by omega⟩
  have hr := rd_at l n (by omega)
  have ih := last_l0 l hl q n k (by omega) (by omega)
  simp only [oakumref08_Last.l0]
  rw [show ((n + 1 : Nat) : Int) - 1 = (n : Int) by omega, if_pos (by omega), if_pos (by omega), if_pos (by omega), hr, w64 ((n : Int) - 1) (by omega) (by omega), ih]
  have ht : (l.take (n + 1)).reverse = l[n] :: (l.take n).reverse := by
   rw [← List.take_append_getElem (by omega : n < l.length), List.reverse_append]
   rfl
  rw [ht]
  simp only [lastF, Lib.toList_data]
  rw [show l[n].f0.data.toList = kx l[n] from rfl]
  split <;> rfl
theorem last_f (l : List Pr) (hl : l.length ≤ 2097152) (q : ByteArray) (k : Nat) (hk : l.length < k) : oakumref08_Last.f k l q = some (lastF q.data.toList l.reverse) := by
 unfold oakumref08_Last.f
 rw [w64 _ (by omega) (by omega), last_l0 l hl q l.length k (Nat.le_refl _) hk, List.take_length]
theorem last_true (q : List UInt8) : ∀ l : List Pr, (lastF q l).2 = true → (lastF q l).1.data.toList ≠ []
 | [], h => by cases h
 | x :: t, h => by
  unfold lastF at h ⊢
  split
  ·rename_i e
   rw [if_pos e] at h
   simpa [vx] using h
  ·rename_i e
   rw [if_neg e] at h
   exact last_true q t h
theorem lay_round (l acc : List Pr) (hl : l.length ≤ 2097152) (ahead : ByteArray) (first : Bool) (K : Nat) :
  oakumref08_Lay.l0 (K + l.length + 1 + 1) l acc ahead first = layEnd K l acc ahead (scan first ahead l false ⟨#[]⟩) := by
 have h := lay_l1 l acc hl ahead first l 0 K false ⟨#[]⟩ rfl
 generalize K + l.length + 1 = K2 at h ⊢
 simp only [oakumref08_Lay.l0]
 exact h
theorem count_less {α : Type} (p r : α → Bool) : ∀ l : List α, (∀ x ∈ l, p x = true → r x = true) → (∃ x ∈ l, r x = true ∧ p x = false) → l.countP p < l.countP r
 | [], _, h => by obtain ⟨x, hx, _⟩ := h; cases hx
 | a :: t, h1, h2 => by
  have hle : t.countP p ≤ t.countP r := List.countP_mono_left fun x hx => h1 x (List.mem_cons_of_mem _ hx)
  rw [List.countP_cons, List.countP_cons]
  obtain ⟨x, hx, hr, hp⟩ := h2
  rcases List.mem_cons.1 hx with rfl | hx
  ·rw [hr, hp]
   simp
   omega
  ·have ih := count_less p r t (fun x hx => h1 x (List.mem_cons_of_mem _ hx)) ⟨x, hx, hr, hp⟩
   have := h1 a (List.mem_cons_self ..)
   cases hpa : p a with
   | false => simp; omega
   | true => rw [this hpa]; simp; omega
theorem less_asym {a b : List UInt8} (h : Op.bytesLess a b = true) : Op.bytesLess b a = false := by
 cases h2 : Op.bytesLess b a with
 | false => rfl
 | true =>
  have := less_tr h h2
  rw [less_irr] at this
  cases this
theorem less_le {a b c : List UInt8} (h1 : Op.bytesLess b a = false) (h2 : Op.bytesLess b c = true) : Op.bytesLess a c = true := by
 cases h3 : Op.bytesLess a b with
 | true => exact less_tr h3 h2
 | false => rw [less_tot h3 h1]; exact h2
theorem lay_ok (l : List Pr) (hl : l.length ≤ 2097152) : ∀ (m k : Nat) (acc : List Pr) (ahead : ByteArray) (first : Bool), l.countP (gtB first ahead) ≤ m → (m + 1) * (l.length + 3) + l.length + 5 ≤ k → acc.length + m ≤ 4194304 →
  Sorted acc → (∀ x ∈ acc, first = false ∧ Op.bytesLess ahead.data.toList (kx x) = false) → ∃ r, oakumref08_Lay.l0 k l acc ahead first = some r ∧ Sorted r := by
 intro m
 induction m with
 | zero =>
  intro k acc ahead first hc hk _ hs _
  obtain ⟨K, rfl⟩ : ∃ K, k = K + l.length + 1 + 1 := ⟨k - l.length - 2, by omega⟩
  rw [lay_round l acc hl]
  obtain ⟨_, s2⟩ := scan_spec first ahead l false ⟨#[]⟩
  unfold layEnd
  cases hb : (scan first ahead l false ⟨#[]⟩).1 with
  | false => exact ⟨acc, rfl, hs⟩
  | true =>
   obtain ⟨h1, _, _⟩ := s2 hb
   rcases h1 with ⟨h1, _⟩ | ⟨x, hx, hg, _⟩
   ·cases h1
   ·have := List.countP_pos_iff.2 ⟨x, hx, hg⟩
    omega
 | succ m ih =>
  intro k acc ahead first hc hk ha hs hi
  have hmul : (m + 1 + 1) * (l.length + 3) = (m + 1) * (l.length + 3) + (l.length + 3) := Nat.succ_mul _ _
  obtain ⟨K, rfl⟩ : ∃ K, k = K + l.length + 1 + 1 := ⟨k - l.length - 2, by omega⟩
  rw [lay_round l acc hl]
  obtain ⟨_, s2⟩ := scan_spec first ahead l false ⟨#[]⟩
  unfold layEnd
  cases hb : (scan first ahead l false ⟨#[]⟩).1 with
  | false => exact ⟨acc, rfl, hs⟩
  | true =>
   obtain ⟨h1, _, _⟩ := s2 hb
   rcases h1 with ⟨h1, _⟩ | ⟨x, hx, hg, hq⟩
   ·cases h1
   ·simp only [if_true]
    generalize (scan first ahead l false ⟨#[]⟩).2 = q at hq ⊢
    subst hq
    rw [last_f l hl x.f0 K (by omega), Option.bind_some]
    have hgq : first = true ∨ Op.bytesLess ahead.data.toList (kx x) = true := by
     unfold gtB at hg
     simpa using hg
    have hcnt : l.countP (gtB false x.f0) ≤ m := by
     have : l.countP (gtB false x.f0) < l.countP (gtB first ahead) := by
      refine count_less _ _ l ?_ ⟨x, hx, hg, ?_⟩
      ·intro y _ hy
       unfold gtB at hy ⊢
       simp only [Bool.false_or] at hy
       rcases hgq with h | h
       ·rw [h]; rfl
       ·rw [less_tr h hy]; simp
      ·unfold gtB
       rw [show x.f0.data.toList = kx x from rfl, less_irr]; rfl
     omega
    have hacc : ∀ y ∈ acc, Op.bytesLess (kx y) (kx x) = true := by
     intro y hy
     obtain ⟨hf, hn⟩ := hi y hy
     rcases hgq with h | h
     ·rw [hf] at h; cases h
     ·exact less_le hn h
    split
    ·rename_i hlt
     rw [if_pos (by omega)]
     refine ih K _ x.f0 false hcnt (by omega) (by rw [List.length_append]; simp; omega) ⟨?_, ?_⟩ ?_
     ·rw [List.pairwise_append]
      refine ⟨hs.1, List.pairwise_singleton _ _, ?_⟩
      intro y hy z hz
      rw [List.mem_singleton] at hz
      subst hz
      exact hacc y hy
     ·intro y hy
      rcases List.mem_append.1 hy with hy | hy
      ·exact hs.2 y hy
      ·rw [List.mem_singleton] at hy
       subst hy
       exact last_true _ _ hlt
     ·intro y hy
      refine ⟨rfl, ?_⟩
      rcases List.mem_append.1 hy with hy | hy
      ·exact less_asym (hacc y hy)
      ·rw [List.mem_singleton] at hy
       subst hy
       exact less_irr _
    ·exact ih K acc x.f0 false hcnt (by omega) (by omega) hs fun y hy => ⟨rfl, less_asym (hacc y hy)⟩
theorem keys_apart : ∀ {l : List Pr}, l.Pairwise (fun x y => Op.bytesLess (kx x) (kx y) = true) → ∀ x ∈ l, ∀ y ∈ l, kx x = kx y → x = y
 | [], _, x, hx, _, _, _ => by cases hx
 | a :: t, h, x, hx, y, hy, e => by
  rw [List.pairwise_cons] at h
  rcases List.mem_cons.1 hx with hx2 | hx2
  ·rcases List.mem_cons.1 hy with hy2 | hy2
   ·rw [hx2, hy2]
   ·have := h.1 y hy2
    rw [← hx2, e, less_irr] at this
    cases this
  ·rcases List.mem_cons.1 hy with hy2 | hy2
   ·have := h.1 x hx2
    rw [← hy2, e, less_irr] at this
    cases this
   ·exact keys_apart h.2 x hx2 y hy2 e
theorem last_at (x : Pr) : ∀ (r : List Pr), (∀ y ∈ r, kx y = kx x → y = x) → x ∈ r → lastF (kx x) r = (x.f1, (vx x != []))
 | [], _, h => by cases h
 | y :: t, h1, h2 => by
  unfold lastF
  by_cases e : kx y = kx x
  ·rw [if_pos e]
   have := h1 y (List.mem_cons_self ..) e
   rw [this]
  ·rw [if_neg e]
   rcases List.mem_cons.1 h2 with rfl | h2
   ·exact absurd rfl e
   ·exact last_at x t (fun z hz => h1 z (List.mem_cons_of_mem _ hz)) h2
theorem lay_sorted (l : List Pr) (hl : l.length ≤ 2097152) (hs : Sorted l) : ∀ (j i k : Nat) (ahead : ByteArray) (first : Bool), i + j = l.length → (j + 1) * (l.length + 3) + l.length + 5 ≤ k →
  ((i = 0 ∧ first = true) ∨ (∃ h : i - 1 < l.length, 0 < i ∧ first = false ∧ ahead = l[i - 1].f0)) → oakumref08_Lay.l0 k l (l.take i) ahead first = some l := by
 have hpw : ∀ a b (ha : a < l.length) (hb : b < l.length), a < b → Op.bytesLess (kx l[a]) (kx l[b]) = true := fun a b ha hb hab => List.pairwise_iff_getElem.1 hs.1 a b ha hb hab
 intro j
 induction j with
 | zero =>
  intro i k ahead first hi hk hst
  obtain ⟨K, rfl⟩ : ∃ K, k = K + l.length + 1 + 1 := ⟨k - l.length - 2, by omega⟩
  rw [lay_round l _ hl]
  obtain ⟨_, s2⟩ := scan_spec first ahead l false ⟨#[]⟩
  unfold layEnd
  cases hb : (scan first ahead l false ⟨#[]⟩).1 with
  | false =>
   rw [List.take_of_length_le (by omega)]
   rfl
  | true =>
   exfalso
   obtain ⟨h1, _, _⟩ := s2 hb
   rcases h1 with ⟨h1, _⟩ | ⟨x, hx, hg, _⟩
   ·cases h1
   ·obtain ⟨t, ht, rfl⟩ := List.mem_iff_getElem.1 hx
    rcases hst with ⟨h0, _⟩ | ⟨h, hpos, hf, rfl⟩
    ·omega
    ·unfold gtB at hg
     rw [hf, Bool.false_or, show l[i - 1].f0.data.toList = kx l[i - 1] from rfl] at hg
     by_cases he : t = i - 1
     ·subst he
      rw [less_irr] at hg; cases hg
     ·rw [less_asym (hpw t (i - 1) ht h (by omega))] at hg; cases hg
 | succ j ih =>
  intro i k ahead first hi hk hst
  have hmul : (j + 1 + 1) * (l.length + 3) = (j + 1) * (l.length + 3) + (l.length + 3) := Nat.succ_mul _ _
  obtain ⟨K, rfl⟩ : ∃ K, k = K + l.length + 1 + 1 := ⟨k - l.length - 2, by omega⟩
  have hil : i < l.length := by omega
  rw [lay_round l _ hl]
  obtain ⟨s1, s2⟩ := scan_spec first ahead l false ⟨#[]⟩
  have hgi : gtB first ahead l[i] = true := by
   unfold gtB
   rcases hst with ⟨_, hf⟩ | ⟨h, hpos, hf, rfl⟩
   ·rw [hf]; rfl
   ·rw [show l[i - 1].f0.data.toList = kx l[i - 1] from rfl, hpw (i - 1) i h hil (by omega)]; simp
  unfold layEnd
  cases hb : (scan first ahead l false ⟨#[]⟩).1 with
  | false =>
   have := (s1 hb).2 l[i] (List.getElem_mem hil)
   rw [hgi] at this
   cases this
  | true =>
   obtain ⟨h1, h2, _⟩ := s2 hb
   rcases h1 with ⟨h1, _⟩ | ⟨x, hx, hg, hq⟩
   ·cases h1
   ·have hmin := h2 l[i] (List.getElem_mem hil) hgi
    simp only [if_true]
    generalize (scan first ahead l false ⟨#[]⟩).2 = q at hq hmin ⊢
    subst hq
    obtain ⟨t, ht, rfl⟩ := List.mem_iff_getElem.1 hx
    have hti : t = i := by
     rcases Nat.lt_trichotomy t i with h | h | h
     ·exfalso
      rcases hst with ⟨h0, _⟩ | ⟨h', hpos, hf, rfl⟩
      ·omega
      ·unfold gtB at hg
       rw [hf, Bool.false_or, show l[i - 1].f0.data.toList = kx l[i - 1] from rfl] at hg
       by_cases he : t = i - 1
       ·subst he
        rw [less_irr] at hg; cases hg
       ·rw [less_asym (hpw t (i - 1) ht h' (by omega))] at hg; cases hg
     ·exact h
     ·exfalso
      rw [show l[t].f0.data.toList = kx l[t] from rfl, hpw i t hil ht h] at hmin
      cases hmin
    subst hti
    rw [last_f l hl _ K (by omega), Option.bind_some, show l[t].f0.data.toList = kx l[t] from rfl]
    rw [last_at l[t] l.reverse (fun y hy e => keys_apart hs.1 y (List.mem_reverse.1 hy) l[t] (List.getElem_mem ht) e) (List.mem_reverse.2 (List.getElem_mem ht))]
    have hv := hs.2 l[t] (List.getElem_mem ht)
    rw [if_pos (by simpa using hv), if_pos (by rw [List.length_take]; omega)]
    have htk : l.take t ++ [(⟨l[t].f0, l[t].f1⟩ : Pr)] = l.take (t + 1) := List.take_append_getElem ht
    rw [htk]
    exact ih (t + 1) K _ false (by omega) (by omega) (.inr ⟨by omega, by omega, rfl, rfl⟩)
def dd (x : Pr) : List UInt8 × List UInt8 := (kx x, vx x)
theorem same_l0 (r l : List Pr) (hl : l.length ≤ 2097152) (he : r.length = l.length) : ∀ (m : Nat) (i k : Nat), i + m = l.length → m < k →
  oakumref07_Same.l0 k r l (i : Int) = some (decide ((r.drop i).map dd = (l.drop i).map dd))
 | 0, i, k, hi, hk => by
  obtain ⟨k, rfl⟩ : ∃ j, k = j + 1 := ⟨k - 1, by omega⟩
  simp only [oakumref07_Same.l0]
  rw [if_neg (by omega), List.drop_eq_nil_of_le (by omega), List.drop_eq_nil_of_le (by omega)]
  rfl
 | m + 1, i, k, hi, hk => by
  obtain ⟨k, rfl⟩ : ∃ j, k = j + 1 := ⟨k - 1, by omega⟩
  have h1 : i < r.length := by omega
  have h2 : i < l.length := by omega
  have ih := same_l0 r l hl he m (i + 1) k (by omega) (by omega)
  simp only [oakumref07_Same.l0]
  rw [if_pos (by omega), if_pos (by omega), if_pos (by omega), rd_at r i h1, rd_at l i h2, show (i : Int) + 1 = ((i + 1 : Nat) : Int) by omega, w64n _ (by omega), ih]
  rw [List.drop_eq_getElem_cons h1, List.drop_eq_getElem_cons h2, List.map_cons, List.map_cons]
  simp only [Lib.toList_data]
  rw [show r[i].f0.data.toList = kx r[i] from rfl, show l[i].f0.data.toList = kx l[i] from rfl, show r[i].f1.data.toList = vx r[i] from rfl, show l[i].f1.data.toList = vx l[i] from rfl]
  by_cases e1 : kx r[i] = kx l[i]
  ·by_cases e2 : vx r[i] = vx l[i]
   ·rw [if_neg (by simp [e1, e2])]
    congr 1
    rw [decide_eq_decide]
    constructor
    ·intro h
     rw [h, show dd r[i] = dd l[i] by unfold dd; rw [e1, e2]]
    ·intro h
     injection h
   ·rw [if_pos (by simp [e2])]
    congr 1
    symm
    apply decide_eq_false
    intro h
    injection h with h _
    injection h with _ h
    exact e2 h
  ·rw [if_pos (by simp [e1])]
   congr 1
   symm
   apply decide_eq_false
   intro h
   injection h with h _
   injection h with h _
   exact e1 h
theorem same_f (r l : List Pr) (hl : l.length ≤ 2097152) (k : Nat) (hk : l.length < k) : oakumref07_Same.f k r l = some (decide (r.map dd = l.map dd)) := by
 unfold oakumref07_Same.f
 by_cases he : r.length = l.length
 ·rw [if_pos (by omega)]
  have := same_l0 r l hl he l.length 0 k (by omega) hk
  rw [List.drop_zero, List.drop_zero] at this
  exact this
 ·rw [if_neg (by omega)]
  congr 1
  symm
  apply decide_eq_false
  intro h
  have := congrArg List.length h
  simp at this
  exact he this
theorem sorted_dd (l : List Pr) : Sorted l ↔ (l.map dd).Pairwise (fun x y => Op.bytesLess x.1 y.1 = true) ∧ ∀ p ∈ l.map dd, p.2 ≠ [] := by
 unfold Sorted
 rw [List.pairwise_map, List.forall_mem_map]
 exact Iff.rfl
def rounds (l : List Pr) (F : Nat) : Nat := (l.length + 2) * (l.length + 3) + 3 * l.length + F + 20
theorem lay_f (l : List Pr) (hl : l.length ≤ 2097152) (k : Nat) : oakumref08_Lay.f k l [] = oakumref08_Lay.l0 k l [] ⟨#[]⟩ true := by
 unfold oakumref08_Lay.f
 rw [Option.bind_some, List.nil_append, if_pos (by simp; omega), Option.bind_some, if_pos (by simp; omega), List.append_nil]
theorem right_l0 (l : List Pr) (F : Nat) (hs : Small l F) : ∀ (m : List Pr) (i k : Nat), l.drop i = m → (l.length + 2) * (l.length + 3) + 2 * l.length + F + 19 + m.length ≤ k →
  oakumref08_Right.l0 k l (i : Int) = some (m.all pOK && sortF none l)
 | [], i, k, hd, hk => by
  obtain ⟨k, rfl⟩ : ∃ j, k = j + 1 := ⟨k - 1, by omega⟩
  have : l.length ≤ i := List.drop_eq_nil_iff.1 hd
  have hn := hs.1
  have hmul : (l.length + 2) * (l.length + 3) = (l.length + 1) * (l.length + 3) + (l.length + 3) := Nat.succ_mul (l.length + 1) _
  simp only [oakumref08_Right.l0]
  rw [if_neg (by omega), lay_f l hn]
  simp only [List.all_nil, Bool.true_and]
  by_cases hso : Sorted l
  ·have := lay_sorted l hn hso l.length 0 k ⟨#[]⟩ true (by omega) (by simp only [List.length_nil] at hk; omega) (.inl ⟨rfl, rfl⟩)
   rw [List.take_zero] at this
   rw [this, Option.bind_some, same_f l l hn k (by omega), (sortF_none l).2 hso, decide_eq_true rfl]
   rfl
  ·obtain ⟨r, e, hr⟩ := lay_ok l hn l.length k [] ⟨#[]⟩ true List.countP_le_length (by simp only [List.length_nil] at hk; omega) (by simp; omega) ⟨List.Pairwise.nil, by simp⟩ (by simp)
   rw [e, Option.bind_some, same_f r l hn k (by omega)]
   have hne : ¬ r.map dd = l.map dd := by
    intro h
    apply hso
    rw [sorted_dd] at hr ⊢
    rw [← h]
    exact hr
   rw [decide_eq_false hne]
   have : sortF none l = false := by
    cases h : sortF none l with
    | false => rfl
    | true => exact absurd ((sortF_none l).1 h) hso
   rw [this]
   rfl
 | x :: m, i, k, hd, hk => by
  obtain ⟨k, rfl⟩ : ∃ j, k = j + 1 := ⟨k - 1, by omega⟩
  have hi : i < l.length := by
   have := congrArg List.length hd
   simp at this
   omega
  have h2 := List.drop_eq_getElem_cons hi
  rw [hd] at h2
  injection h2 with hx ht
  have hr := rd_at l i hi
  rw [← hx] at hr
  have hmem : x ∈ l := hx ▸ List.getElem_mem hi
  obtain ⟨s1, s2, s3⟩ := hs.2 x hmem
  have hn := hs.1
  have ih := right_l0 l F hs m (i + 1) k ht.symm (by simp only [List.length_cons] at hk; omega)
  simp only [oakumref08_Right.l0]
  rw [if_pos (by omega), if_pos (by omega), hr, pair_ref x.f0 x.f1 s1 s2 k (by omega), Option.bind_some, show (i : Int) + 1 = ((i + 1 : Nat) : Int) by omega, w64n _ (by omega), ih, List.all_cons]
  rw [show pOK x = pairOK x.f0.data.toList x.f1.data.toList from rfl]
  cases pairOK x.f0.data.toList x.f1.data.toList <;> rfl
theorem over_ref (l : List Pr) (F : Nat) (hs : Small l F) (k : Nat) (hk : rounds l F ≤ k) : oakumref08_Right.f k l = some (overOK l) := by
 unfold oakumref08_Right.f overOK
 unfold rounds at hk
 exact right_l0 l F hs l 0 k rfl (by omega)
end Go.Proofs.YtejdmofljifkbaaGreatDoor.P
namespace Go.Proofs.YtejdmofljifkbaaGreatDoor.P
open Go.RowKit Go.Proofs.YtejdmofljifkbaaGreatDoorW.PrintWords Go.Proofs.YtejdmofljifkbaaGreatDoorW.PrintLast Go.Proofs.YtejdmofljifkbaaGreatDoorW.PrintMore
theorem known_wh (l : List UInt8) : decide (whI l < 0) = !knownL l := by
 unfold whI knownL
 by_cases c0 : l = kPath
 ·subst c0; decide
 by_cases c1 : l = kLink
 ·subst c1; decide
 by_cases c2 : l = kUname
 ·subst c2; decide
 by_cases c3 : l = kGname
 ·subst c3; decide
 by_cases c4 : l = kUid
 ·subst c4; decide
 by_cases c5 : l = kGid
 ·subst c5; decide
 by_cases c6 : l = kSize
 ·subst c6; decide
 by_cases c7 : l = kMtime
 ·subst c7; decide
 rw [if_neg (Ne.symm c0), if_neg (Ne.symm c1), if_neg (Ne.symm c2), if_neg (Ne.symm c3), if_neg (Ne.symm c4), if_neg (Ne.symm c5), if_neg (Ne.symm c6), if_neg (Ne.symm c7)]
 unfold kPath at c0
 unfold kLink at c1
 unfold kUname at c2
 unfold kGname at c3
 unfold kUid at c4
 unfold kGid at c5
 unfold kSize at c6
 unfold kMtime at c7
 simp [c0, c1, c2, c3, c4, c5, c6, c7]
theorem key_ok (x : Pr) : keyOK x = !knownL x.f0.toList := by
 unfold keyOK
 rw [which_is x.f0 20 (by omega), Lib.toList_data, ← known_wh]
theorem all_key (l : List Pr) : l.all keyOK = !(l.any fun p => knownL p.f0.toList) := by
 induction l with
 | nil => rfl
 | cons x t ih =>
  rw [List.all_cons, List.any_cons, ih, key_ok, Bool.not_or]
theorem extra_f (l : List Pr) (F : Nat) (hs : Small l F) (k : Nat) (hk : l.length + F < k) : item_extra.f k l = some (overOK l && l.all keyOK) := by
 have hn := hs.1
 unfold item_extra.f
 rw [if_pos (by omega), over_prog l F hs k hk, Option.bind_some, all_key]
theorem wrong_prog (a0_0 : Int) (a0_1 : ByteArray) (a0_2 : ByteArray) (a0_3 : Int) (a0_4 : Int) (a0_5 : Int) (a0_6 : Int) (a0_7 : Int) (a0_8 : Int) (a0_9 : ByteArray) (a0_10 : ByteArray) (a0_11 : Int) (a0_12 : Int) (l0_13 : List Pr) (F : Nat) (hs : Small l0_13 F) (h1 : a0_1.size ≤ 2097152) (k : Nat) (hk : l0_13.length + F + 5 < k) :
  item_Wrong.f k a0_0 a0_1 a0_2 a0_3 a0_4 a0_5 a0_6 a0_7 a0_8 a0_9 a0_10 a0_11 a0_12 l0_13 = some (firstBad (okL a0_0 a0_1 a0_2 a0_3 a0_4 a0_5 a0_6 a0_7 a0_8 a0_9 a0_10 a0_11 a0_12 (overOK l0_13 && l0_13.all keyOK)) 1) := by
 unfold item_Wrong.f
 rw [if_pos h1, extra_f l0_13 F hs k (by omega), Option.bind_some]
theorem wrong_ref (a0_0 : Int) (a0_1 : ByteArray) (a0_2 : ByteArray) (a0_3 : Int) (a0_4 : Int) (a0_5 : Int) (a0_6 : Int) (a0_7 : Int) (a0_8 : Int) (a0_9 : ByteArray) (a0_10 : ByteArray) (a0_11 : Int) (a0_12 : Int) (l0_13 : List Pr) (F : Nat) (hs : Small l0_13 F) (h1 : a0_1.size ≤ 2097152) (h2 : a0_2.size ≤ 2097152) (h9 : a0_9.size ≤ 2097152) (h10 : a0_10.size ≤ 2097152) (k : Nat) (hk : rounds l0_13 F ≤ k) :
  oakumref09_Wrong.f k a0_0 a0_1 a0_2 a0_3 a0_4 a0_5 a0_6 a0_7 a0_8 a0_9 a0_10 a0_11 a0_12 l0_13 = some (firstBad (okL a0_0 a0_1 a0_2 a0_3 a0_4 a0_5 a0_6 a0_7 a0_8 a0_9 a0_10 a0_11 a0_12 (overOK l0_13 && l0_13.all keyOK)) 1) := by
 have hn := hs.1
 unfold oakumref09_Wrong.f
 rw [if_pos ⟨by omega, by omega, by omega, by omega, by omega⟩, over_ref l0_13 F hs k hk, Option.bind_some]
end Go.Proofs.YtejdmofljifkbaaGreatDoor.P
namespace Go.Proofs.YtejdmofljifkbaaGreatDoor.P
open Go.RowKit Go.Proofs.YtejdmofljifkbaaGreatDoorW.PrintWords Go.Proofs.YtejdmofljifkbaaGreatDoorW.PrintLast Go.Proofs.YtejdmofljifkbaaGreatDoorW.PrintMore
attribute [local go_sem] max2_int min2_int max_two min_two max_three min_three max_four min_four   -- for this text's walks alone
set_option linter.unusedVariables false
set_option linter.unusedSimpArgs false
def dec_Text.f (a0 : Int) : Option (ByteArray) := (strconv_FormatInt.f a0 10).bind fun t153 => (some t153)
set_option maxHeartbeats 8000000 in
set_option maxRecDepth 100000 in
theorem dec_Text.calls (a0 : Int) (r : ByteArray) (w : World) (hG : Glob w) (h : dec_Text.f a0 = some r) :
  Calls Tryz.prog 26 #[.int .i64 a0] w fun e w' => e = .returned (.string r) ∧ Below w.heap.size w w' := by
 have HG := Aside0.mk hG; clear hG
 have HB := Aside0.mk (Below.refl w.heap.size w)
 have H : ((strconv_FormatInt.f a0 10).bind fun t153 => (some t153)) = some r := h
 clear h
 obtain ⟨t153, A20, H⟩ := Zk H
 have A2 := Aside0.mk A20
 clear A20
 obtain rfl := Option.some.inj H
 go_enter Tryz.func26, Tryz.ntmps26
 go_wp2_with (first | ((with_reducible refine gate_callee (f := 63) rfl ?_); refine goesL_ (some 4) rfl rfl Tryz.func63 (by kernel_rfl) rfl #[.int .i64 a0, .int .i64 10] rfl Zv ?_; (with_reducible refine (strconv_FormatInt.calls a0 10 t153 _ ?side1 A2.out).mono ?_); (case side1 => exact ZG HG HB); rintro e w3 ⟨rfl, hb⟩; refine ⟨_, rfl, ?_⟩; replace HB := Zs HB hb; try clear hb))
 go_ret
 exact ⟨Ze, Zh HB⟩
end Go.Proofs.YtejdmofljifkbaaGreatDoor.P
namespace Go.Proofs.YtejdmofljifkbaaGreatDoor.P
open Go.RowKit Go.Proofs.YtejdmofljifkbaaGreatDoorW.PrintWords Go.Proofs.YtejdmofljifkbaaGreatDoorW.PrintLast Go.Proofs.YtejdmofljifkbaaGreatDoorW.PrintMore
attribute [local go_sem] max2_int min2_int max_two min_two max_three min_three max_four min_four   -- for this text's walks alone
set_option linter.unusedVariables false
set_option linter.unusedSimpArgs false
def oakumref04_Digits.f : Nat → Int → Option (ByteArray)
 | 0, _ => none
 | k + 1, a0 => if a0 < 10 then (some (strOfNums (([(wrap64 (48 + a0)) % 256] : List Int)))) else ((oakumref04_Digits.f k (wrap64 (Int.tdiv a0 10))).bind fun t289 => ((some (([(wrap64 (48 + (Int.tmod a0 10))) % 256] : List Int) : List Int)).bind fun y290 => (if t289.size + (strOfNums y290).size ≤ 9223372036854775807 then (some (t289 ++ (strOfNums y290))) else (none))))
def oakumref04_Digits.T3 : Bool × List (List Nat × List Nat) := (true, [([], []), ([0], [0]), ([1], [1]), ([], []), ([3], [3]), ([4], [4]), ([5], [5]), ([6], [6]), ([7], [7]), ([2, 8], [2, 8]), ([9, 2, 0, 1, 2, 3, 4, 5, 6, 7, 8, 9], [9])])
def oakumref04_Digits.B3 : List Nat := [0, 1, 3, 0, 8, 24, 56, 120, 248, 511, 1023]
theorem oakumref04_Digits.tab3 : rtab .any (opsOf Tryz.f78 3) = oakumref04_Digits.T3 := by kernel_rfl
theorem oakumref04_Digits.bits3 : waitsOk oakumref04_Digits.T3.2 oakumref04_Digits.B3 = true := by kernel_rfl
set_option maxHeartbeats 8000000 in
set_option maxRecDepth 100000 in
theorem oakumref04_Digits.calls (k : Nat) : ∀ (a0 : Int) (r : ByteArray) (w : World) (h : oakumref04_Digits.f k a0 = some r),
  Calls Tryz.prog 78 #[.int .i64 a0] w fun e w' => e = .returned (.string r) ∧ Below w.heap.size w w' := by
 induction k using Nat.strongRecOn with
 | _ k ih =>
 intro a0 r w h
 cases k with
 | zero => exact absurd h (by simp [oakumref04_Digits.f])
 | succ k =>
 simp only [oakumref04_Digits.f] at h
 have HB := Aside0.mk (Below.refl w.heap.size w)
 have H : (if a0 < 10 then (some (strOfNums (([(wrap64 (48 + a0)) % 256] : List Int)))) else ((oakumref04_Digits.f k (wrap64 (Int.tdiv a0 10))).bind fun t289 => ((some (([(wrap64 (48 + (Int.tmod a0 10))) % 256] : List Int) : List Int)).bind fun y290 => (if t289.size + (strOfNums y290).size ≤ 9223372036854775807 then (some (t289 ++ (strOfNums y290))) else (none))))) = some r := h
 clear h
 by_cases c2 : a0 < 10
 ·rw [if_pos c2] at H
  have c2b0 : decide (a0 < 10) = true := decide_eq_true c2
  clear c2
  obtain ⟨y286, hy286⟩ : ∃ y_ : List Int, y_ = (([(wrap64 (48 + a0)) % 256] : List Int)) := ⟨_, rfl⟩
  replace H : (some (strOfNums y286)) = some r := by first | (rw [hy286]; with_reducible exact H) | (have H2_ := (Option.bind_some _ _).symm.trans H; rw [hy286]; with_reducible exact H2_) | (have H2_ := (Option.bind_some _ _).symm.trans H; with_reducible exact H2_) | with_reducible exact H | (rw [hy286]; exact H) | exact H
  have Ny286 := Aside0.mk hy286
  clear hy286
  obtain rfl := Option.some.inj H
  go_enter Tryz.func78, Tryz.ntmps78
  go_wp2_with (first | ((with_reducible refine gate_dst (N := 8) rfl ?_); refine Kd.R_lit (Kd.int .u8) _ 5 ?hg (N := 8) ?hd (xs := ([(wrap64 (48 + a0)) % 256] : List Int)) (inner := [.int .u8 ((wrap64 (48 + a0)) % 256)]) (ok := fun _ => True) (okp := fun _ => True) ?hr ?hp (fun _ hk => hk) trivial (Below.refl _ _) (Nat.le_refl _) (by simp) ?_; (case hd => rfl); (case hg => rfl); (case hr => first | (go_simp; done) | (go_simp; rfl)); (case hp => exact (Reps.one (show Kd.M (Kd.int .u8) _ _ _ ((wrap64 (48 + a0)) % 256) [.int .u8 ((wrap64 (48 + a0)) % 256)] from rfl) (Reps.none _ _))); intro v287 w3 ho4 hb hg_ hnew_; clear hg_ hnew_; (first | rw [← Ny286.out] at ho4 | (simp only [Int.reduceToNat] at ho4; rw [← Ny286.out] at ho4)); have HO288 := Aside0.mk (Kd.R_lower ho4 (below_size (Zh HB))); replace HB := Zs HB hb; clear hb ho4; have hcv5 := own_string (P := Tryz.prog) Tryz.underlying27 Tryz.underlying5 Tryz.underlying9 (Kd.own_of_R HO288.out)))
  go_ret
  exact ⟨Ze, Zh HB⟩
 ·rw [if_neg c2] at H
  have c2b0 : decide (a0 < 10) = false := decide_eq_false c2
  clear c2
  obtain ⟨t289, A60, H⟩ := Zk H
  have A6 := Aside0.mk A60
  clear A60
  obtain ⟨y290, hy290⟩ : ∃ y_ : List Int, y_ = (([(wrap64 (48 + (Int.tmod a0 10))) % 256] : List Int)) := ⟨_, rfl⟩
  replace H : (if t289.size + (strOfNums y290).size ≤ 9223372036854775807 then (some (t289 ++ (strOfNums y290))) else (none)) = some r := by first | (rw [hy290]; with_reducible exact H) | (have H2_ := (Option.bind_some _ _).symm.trans H; rw [hy290]; with_reducible exact H2_) | (have H2_ := (Option.bind_some _ _).symm.trans H; with_reducible exact H2_) | with_reducible exact H | (rw [hy290]; exact H) | exact H
  have Ny290 := Aside0.mk hy290
  clear hy290
  by_cases c7 : t289.size + (strOfNums y290).size ≤ 9223372036854775807
  ·rw [if_pos c7] at H
   have c7b0 := eq_true c7
   have c7b1 : decide (t289.size + (strOfNums y290).size ≤ 9223372036854775807) = true := decide_eq_true c7
   try have c7b2 : (9223372036854775807 < t289.size + (strOfNums y290).size) = False := eq_false (Nat.not_lt.2 c7)
   obtain rfl := Option.some.inj H
   go_enter Tryz.func78, Tryz.ntmps78
   try go_wp2
   replace HB := Aside0.mk (below_drew1 HB.out)
   refine start_ (n := 11) (S := fun w' => True) (ds := []) #[false, false, false, false, false, false, false, false, false, false, false] (by kernel_rfl) rfl rfl trivial (fun hHeld => ?_); refine with_tabW oakumref04_Digits.tab3 oakumref04_Digits.bits3 (fun HT_ HW_ => ?_)
   generalize w.drew = w8 at HB hHeld ⊢
   refine Zp 0 10 (Zb 11 1) HT_ ?_
   refine Zp 1 11 (Zb 11 3) HT_ ?_
   refine Zp 3 13 (Zb 11 11) HT_ ?_
   refine Zp 4 14 (Zb 11 27) HT_ ?_
   refine Zp 5 15 (Zb 11 59) HT_ ?_
   refine Zp 6 16 (Zb 11 123) HT_ ?_
   refine join_ (σ := Value) 2 #[true, true, true, true, true, true, true, true, true, false, false] (fun s_ => [(12, .string t289), (17, s_), (18, .string (strOfNums y290))]) (fun s_ w' => (Kd.R (Kd.int .u8) 5 w' w.heap.size (fun _ => True) s_ y290) ∧ (Below w.heap.size w w')) ?_ ?_
   rotate_left
   ·intro hCont
    refine two_ (i := 2) (j := 7) (Ni := some 12) (Nj := some 17) #[true, true, true, true, true, true, true, false, false, false, false] #[true, true, false, true, true, true, true, true, false, false, false] rfl rfl rfl rfl (two_of HT_.out (by kernel_rfl)) (by decide) (by decide) (fun K hK => ?_) (fun K hK => ?_)
    ·skip
     refine Zg Tryz.func78 #[.int .i64 (wrap64 (Int.tdiv a0 10))] ?_
     with_reducible refine (ih k (by omega) (wrap64 (Int.tdiv a0 10)) t289 _ A6.out).mono ?_
     rintro e w9 ⟨rfl, hb⟩
     refine ⟨_, rfl, ?_⟩
     replace HB := Zs HB hb
     try clear hb
     refine hK.out _ _ trivial (fun hHeld => ?_)
     clear hK K
     refine Zn ?_
     refine Zo 7 17 (Zb 11 255) HT_ fun K hK => ?_
     refine Kd.R_lit_step (Kd.int .u8) _ 5 ?hg (N := 17) ?hd (xs := ([(wrap64 (48 + (Int.tmod a0 10))) % 256] : List Int)) (inner := [.int .u8 ((wrap64 (48 + (Int.tmod a0 10))) % 256)]) (ok := fun _ => True) (okp := fun _ => True) ?hr ?hp (fun _ hk => hk) trivial (Below.refl _ _) (Nat.le_refl _) (by simp) ?_; (case hd => rfl); (case hg => rfl); (case hr => first | (go_simp; done) | (go_simp; rfl)); (case hp => exact (Reps.one (show Kd.M (Kd.int .u8) _ _ _ ((wrap64 (48 + (Int.tmod a0 10))) % 256) [.int .u8 ((wrap64 (48 + (Int.tmod a0 10))) % 256)] from rfl) (Reps.none _ _)))
     intro v291 w10 ho11 hb hg_ hnew_
     clear hg_ hnew_
     (first | rw [← Ny290.out] at ho11 | (simp only [Int.reduceToNat] at ho11; rw [← Ny290.out] at ho11))
     have HO292 := Aside0.mk (Kd.R_lower ho11 (below_size (Zh HB)))
     replace HB := Zs HB hb
     clear hb ho11
     refine hK.out _ _ trivial (fun hHeld => ?_)
     clear hK K
     refine Zn ?_
     refine Zo 8 18 (Zb 11 511) HT_ fun K hK => ?_
     have hcv12 := own_string (P := Tryz.prog) Tryz.underlying27 Tryz.underlying5 Tryz.underlying9 (Kd.own_of_R HO292.out)
     refine value_ (w1 := ?_) (v := ?_) (by rfl) rfl ?_ ?_
     rotate_left 2
     ·go_simp
      constructor
      ·rfl
      ·rfl
     clear hcv12
     refine hK.out _ _ trivial (fun hHeld => ?_)
     clear hK K
     refine Zn ?_
     exact norm_ (by simp only [putAll, Act.put, List.setIfInBounds_toArray, List.set_cons_zero, List.set_cons_succ]) (hCont (v291) _ ⟨(by (with_reducible repeat (first | apply Kd.R_alloc | apply Kd.R_drewN | apply Kd.R_drew)); exact HO292.out), (Zh HB)⟩)
    ·skip
     refine Kd.R_lit_step (Kd.int .u8) _ 5 ?hg (N := 17) ?hd (xs := ([(wrap64 (48 + (Int.tmod a0 10))) % 256] : List Int)) (inner := [.int .u8 ((wrap64 (48 + (Int.tmod a0 10))) % 256)]) (ok := fun _ => True) (okp := fun _ => True) ?hr ?hp (fun _ hk => hk) trivial (Below.refl _ _) (Nat.le_refl _) (by simp) ?_; (case hd => rfl); (case hg => rfl); (case hr => first | (go_simp; done) | (go_simp; rfl)); (case hp => exact (Reps.one (show Kd.M (Kd.int .u8) _ _ _ ((wrap64 (48 + (Int.tmod a0 10))) % 256) [.int .u8 ((wrap64 (48 + (Int.tmod a0 10))) % 256)] from rfl) (Reps.none _ _)))
     intro v291 w9 ho10 hb hg_ hnew_
     clear hg_ hnew_
     (first | rw [← Ny290.out] at ho10 | (simp only [Int.reduceToNat] at ho10; rw [← Ny290.out] at ho10))
     have HO292 := Aside0.mk (Kd.R_lower ho10 (below_size (Zh HB)))
     replace HB := Zs HB hb
     clear hb ho10
     refine hK.out _ _ trivial (fun hHeld => ?_)
     clear hK K
     refine Zn ?_
     refine two_ (i := 2) (j := 8) (Ni := some 12) (Nj := some 18) #[true, true, true, true, true, true, true, true, false, false, false] #[true, true, false, true, true, true, true, true, true, false, false] rfl rfl rfl rfl (two_of HT_.out (by kernel_rfl)) (by decide) (by decide) (fun K hK => ?_) (fun K hK => ?_)
     ·skip
      refine Zg Tryz.func78 #[.int .i64 (wrap64 (Int.tdiv a0 10))] ?_
      with_reducible refine (ih k (by omega) (wrap64 (Int.tdiv a0 10)) t289 _ A6.out).mono ?_
      rintro e w11 ⟨rfl, hb⟩
      refine ⟨_, rfl, ?_⟩
      replace HO292 := Aside0.mk (Kd.R_below (by (with_reducible repeat (first | apply Kd.R_alloc | apply Kd.R_drewN | apply Kd.R_drew)); exact HO292.out) hb)
      replace HB := Zs HB hb
      try clear hb
      refine hK.out _ _ trivial (fun hHeld => ?_)
      clear hK K
      refine Zn ?_
      refine Zo 8 18 (Zb 11 511) HT_ fun K hK => ?_
      have hcv12 := own_string (P := Tryz.prog) Tryz.underlying27 Tryz.underlying5 Tryz.underlying9 (Kd.own_of_R HO292.out)
      refine value_ (w1 := ?_) (v := ?_) (by rfl) rfl ?_ ?_
      rotate_left 2
      ·go_simp
       constructor
       ·rfl
       ·rfl
      clear hcv12
      refine hK.out _ _ trivial (fun hHeld => ?_)
      clear hK K
      refine Zn ?_
      exact norm_ (by simp only [putAll, Act.put, List.setIfInBounds_toArray, List.set_cons_zero, List.set_cons_succ]) (hCont (v291) _ ⟨(by (with_reducible repeat (first | apply Kd.R_alloc | apply Kd.R_drewN | apply Kd.R_drew)); exact HO292.out), (Zh HB)⟩)
     ·skip
      have hcv11 := own_string (P := Tryz.prog) Tryz.underlying27 Tryz.underlying5 Tryz.underlying9 (Kd.own_of_R HO292.out)
      refine value_ (w1 := ?_) (v := ?_) (by rfl) rfl ?_ ?_
      rotate_left 2
      ·go_simp
       constructor
       ·rfl
       ·rfl
      clear hcv11
      refine hK.out _ _ trivial (fun hHeld => ?_)
      clear hK K
      refine Zn ?_
      refine Zo 2 12 (Zb 11 511) HT_ fun K hK => ?_
      refine Zg Tryz.func78 #[.int .i64 (wrap64 (Int.tdiv a0 10))] ?_
      with_reducible refine (ih k (by omega) (wrap64 (Int.tdiv a0 10)) t289 _ A6.out).mono ?_
      rintro e w12 ⟨rfl, hb⟩
      refine ⟨_, rfl, ?_⟩
      replace HO292 := Aside0.mk (Kd.R_below (by (with_reducible repeat (first | apply Kd.R_alloc | apply Kd.R_drewN | apply Kd.R_drew)); exact HO292.out) hb)
      replace HB := Zs HB hb
      try clear hb
      refine hK.out _ _ trivial (fun hHeld => ?_)
      clear hK K
      refine Zn ?_
      exact norm_ (by simp only [putAll, Act.put, List.setIfInBounds_toArray, List.set_cons_zero, List.set_cons_succ]) (hCont (v291) _ ⟨(by (with_reducible repeat (first | apply Kd.R_alloc | apply Kd.R_drewN | apply Kd.R_drew)); exact HO292.out), (Zh HB)⟩)
   rintro v291 w13 ⟨h0_, h1_⟩
   have n0_ : Aside0 (Kd.R (Kd.int .u8) 5 w13 w.heap.size (fun _ => True) v291 y290) := ⟨h0_⟩
   have n1_ : Aside0 (Below w.heap.size w w13) := ⟨h1_⟩
   clear HB
   clear h0_ h1_
   have HO292 := n0_
   have HB := n1_
   clear n0_ n1_
   have hHeld := trivial
   refine norm_ (a' := ?_) ?_ ?_
   rotate_left
   ·simp only [putAll, Act.put, List.setIfInBounds_toArray, List.set_cons_zero, List.set_cons_succ]
    rfl
   refine Zp 9 19 (Zb 11 1023) HT_ ?_
   refine Zp 10 2 (Zb 11 2047) HT_ ?_
   refine Zq HT_ ?_
   try go_wp2
   go_ret
   exact ⟨Ze, Zh HB⟩
  ·rw [if_neg c7] at H
   exact absurd H (by simp)
end Go.Proofs.YtejdmofljifkbaaGreatDoor.P
namespace Go.Proofs.YtejdmofljifkbaaGreatDoor.P
open Go.RowKit Go.Proofs.YtejdmofljifkbaaGreatDoorW.PrintWords Go.Proofs.YtejdmofljifkbaaGreatDoorW.PrintLast Go.Proofs.YtejdmofljifkbaaGreatDoorW.PrintMore
attribute [local go_sem] max2_int min2_int max_two min_two max_three min_three max_four min_four   -- for this text's walks alone
set_option linter.unusedVariables false
set_option linter.unusedSimpArgs false
def oakumref04_Text.f (k : Nat) (a0 : Int) : Option (ByteArray) := if a0 ≥ 0 then ((oakumref04_Digits.f k a0).bind fun t293 => (some t293)) else (if a0 > (-10) then ((oakumref04_Digits.f k (wrap64 (-a0))).bind fun t294 => (if 1 + t294.size ≤ 9223372036854775807 then (some ((⟨#[45]⟩ : ByteArray) ++ t294)) else (none))) else ((oakumref04_Digits.f k (wrap64 (-(wrap64 (Int.tdiv a0 10))))).bind fun t295 => (if 1 + t295.size ≤ 9223372036854775807 then ((oakumref04_Digits.f k (wrap64 (-(Int.tmod a0 10)))).bind fun t296 => (if ((⟨#[45]⟩ : ByteArray) ++ t295).size + t296.size ≤ 9223372036854775807 then (some (((⟨#[45]⟩ : ByteArray) ++ t295) ++ t296)) else (none))) else (none))))
set_option maxHeartbeats 8000000 in
set_option maxRecDepth 100000 in
theorem oakumref04_Text.calls (k : Nat) (a0 : Int) (r : ByteArray) (w : World) (h : oakumref04_Text.f k a0 = some r) :
  Calls Tryz.prog 35 #[.int .i64 a0] w fun e w' => e = .returned (.string r) ∧ Below w.heap.size w w' := by
 have HB := Aside0.mk (Below.refl w.heap.size w)
 have H : (if a0 ≥ 0 then ((oakumref04_Digits.f k a0).bind fun t293 => (some t293)) else (if a0 > (-10) then ((oakumref04_Digits.f k (wrap64 (-a0))).bind fun t294 => (if 1 + t294.size ≤ 9223372036854775807 then (some ((⟨#[45]⟩ : ByteArray) ++ t294)) else (none))) else ((oakumref04_Digits.f k (wrap64 (-(wrap64 (Int.tdiv a0 10))))).bind fun t295 => (if 1 + t295.size ≤ 9223372036854775807 then ((oakumref04_Digits.f k (wrap64 (-(Int.tmod a0 10)))).bind fun t296 => (if ((⟨#[45]⟩ : ByteArray) ++ t295).size + t296.size ≤ 9223372036854775807 then (some (((⟨#[45]⟩ : ByteArray) ++ t295) ++ t296)) else (none))) else (none))))) = some r := h
 clear h
 by_cases c2 : a0 ≥ 0
 ·rw [if_pos c2] at H
  have c2b0 : decide (0 ≤ a0) = true := decide_eq_true c2
  clear c2
  obtain ⟨t293, A30, H⟩ := Zk H
  have A3 := Aside0.mk A30
  clear A30
  obtain rfl := Option.some.inj H
  go_enter Tryz.func35, Tryz.ntmps35
  go_wp2_with (first | ((with_reducible refine gate_callee (f := 78) rfl ?_); refine goesL_ (some 6) rfl rfl Tryz.func78 (by kernel_rfl) rfl #[.int .i64 a0] rfl Zv ?_; (with_reducible refine (oakumref04_Digits.calls k a0 t293 _ A3.out).mono ?_); rintro e w4 ⟨rfl, hb⟩; refine ⟨_, rfl, ?_⟩; replace HB := Zs HB hb; try clear hb))
  go_ret
  exact ⟨Ze, Zh HB⟩
 ·rw [if_neg c2] at H
  have c2b0 : decide (0 ≤ a0) = false := decide_eq_false c2
  clear c2
  by_cases c5 : a0 > (-10)
  ·rw [if_pos c5] at H
   have c5b0 : decide ((-10) < a0) = true := decide_eq_true c5
   clear c5
   obtain ⟨t294, A60, H⟩ := Zk H
   have A6 := Aside0.mk A60
   clear A60
   by_cases c7 : 1 + t294.size ≤ 9223372036854775807
   ·rw [if_pos c7] at H
    have c7b0 := eq_true c7
    have c7b1 : decide (1 + t294.size ≤ 9223372036854775807) = true := decide_eq_true c7
    try have c7b2 : (9223372036854775807 < 1 + t294.size) = False := eq_false (Nat.not_lt.2 c7)
    obtain rfl := Option.some.inj H
    go_enter Tryz.func35, Tryz.ntmps35
    go_wp2_with (first | ((with_reducible refine gate_callee (f := 78) rfl ?_); refine goesL_ (some 11) rfl rfl Tryz.func78 (by kernel_rfl) rfl #[.int .i64 (wrap64 (-a0))] rfl (by (try simp only [List.map_toArray, List.map_cons, List.map_nil]); first | done | rfl | (simp only [List.length_drop, List.length_take]; rfl) | (refine Eq.trans (b := #[.int .i64 (-a0)]) rfl ?_; rw [w64 (-a0) (by omega) (by omega)])) ?_; (with_reducible refine (oakumref04_Digits.calls k (wrap64 (-a0)) t294 _ A6.out).mono ?_); rintro e w8 ⟨rfl, hb⟩; refine ⟨_, rfl, ?_⟩; replace HB := Zs HB hb; try clear hb))
    go_ret
    exact ⟨Ze, Zh HB⟩
   ·rw [if_neg c7] at H
    exact absurd H (by simp)
  ·rw [if_neg c5] at H
   have c5b0 : decide ((-10) < a0) = false := decide_eq_false c5
   clear c5
   obtain ⟨t295, A90, H⟩ := Zk H
   have A9 := Aside0.mk A90
   clear A90
   by_cases c10 : 1 + t295.size ≤ 9223372036854775807
   ·rw [if_pos c10] at H
    have c10b0 := eq_true c10
    have c10b1 : decide (1 + t295.size ≤ 9223372036854775807) = true := decide_eq_true c10
    try have c10b2 : (9223372036854775807 < 1 + t295.size) = False := eq_false (Nat.not_lt.2 c10)
    obtain ⟨t296, A110, H⟩ := Zk H
    have A11 := Aside0.mk A110
    clear A110
    by_cases c12 : ((⟨#[45]⟩ : ByteArray) ++ t295).size + t296.size ≤ 9223372036854775807
    ·rw [if_pos c12] at H
     have c12b0 := eq_true c12
     have c12b1 : decide (((⟨#[45]⟩ : ByteArray) ++ t295).size + t296.size ≤ 9223372036854775807) = true := decide_eq_true c12
     try have c12b2 : (9223372036854775807 < ((⟨#[45]⟩ : ByteArray) ++ t295).size + t296.size) = False := eq_false (Nat.not_lt.2 c12)
     try (have c12b3 := c12; simp [ByteArray.size_append, lit_size] at c12b3)
     obtain rfl := Option.some.inj H
     go_enter Tryz.func35, Tryz.ntmps35
     go_wp2_with (first | ((with_reducible refine gate_callee (f := 78) rfl ?_); refine goesL_ (some 16) rfl rfl Tryz.func78 (by kernel_rfl) rfl #[.int .i64 (wrap64 (-(wrap64 (Int.tdiv a0 10))))] rfl (by (try simp only [List.map_toArray, List.map_cons, List.map_nil]); first | done | rfl | (simp only [List.length_drop, List.length_take]; rfl) | (refine Eq.trans (b := #[.int .i64 (-(wrap64 (Int.tdiv a0 10)))]) rfl ?_; rw [w64 (-(wrap64 (Int.tdiv a0 10))) (by omega) (by omega)])) ?_; (with_reducible refine (oakumref04_Digits.calls k (wrap64 (-(wrap64 (Int.tdiv a0 10)))) t295 _ A9.out).mono ?_); rintro e w13 ⟨rfl, hb⟩; refine ⟨_, rfl, ?_⟩; replace HB := Zs HB hb; try clear hb) | ((with_reducible refine gate_callee (f := 78) rfl ?_); refine goesL_ (some 21) rfl rfl Tryz.func78 (by kernel_rfl) rfl #[.int .i64 (wrap64 (-(Int.tmod a0 10)))] rfl (by (try simp only [List.map_toArray, List.map_cons, List.map_nil]); first | done | rfl | (simp only [List.length_drop, List.length_take]; rfl) | (refine Eq.trans (b := #[.int .i64 (-(Int.tmod a0 10))]) rfl ?_; rw [w64 (-(Int.tmod a0 10)) (by omega) (by omega)])) ?_; (with_reducible refine (oakumref04_Digits.calls k (wrap64 (-(Int.tmod a0 10))) t296 _ A11.out).mono ?_); rintro e w14 ⟨rfl, hb⟩; refine ⟨_, rfl, ?_⟩; replace HB := Zs HB hb; try clear hb))
     go_ret
     exact ⟨Ze, Zh HB⟩
    ·rw [if_neg c12] at H
     exact absurd H (by simp)
   ·rw [if_neg c10] at H
    exact absurd H (by simp)
end Go.Proofs.YtejdmofljifkbaaGreatDoor.P
namespace Go.Proofs.YtejdmofljifkbaaGreatDoor.P
open Go.RowKit Go.Proofs.YtejdmofljifkbaaGreatDoorW.PrintWords Go.Proofs.YtejdmofljifkbaaGreatDoorW.PrintLast Go.Proofs.YtejdmofljifkbaaGreatDoorW.PrintMore
attribute [local go_sem] max2_int min2_int max_two min_two max_three min_three max_four min_four   -- for this text's walks alone
set_option linter.unusedVariables false
set_option linter.unusedSimpArgs false
def oakumref02_open.f (a0 : Int) : Option (Bool) := if a0 ≥ 33 then (if a0 ≤ 126 then (some (a0 != 92)) else (some false)) else (some false)
set_option maxHeartbeats 8000000 in
set_option maxRecDepth 100000 in
theorem oakumref02_open.calls (a0 : Int) (r : Bool) (w : World) (h : oakumref02_open.f a0 = some r) :
  Calls Tryz.prog 83 #[.int .u8 a0] w fun e w' => e = .returned (.bool r) ∧ Drawn0 w w' := by
 have H : (if a0 ≥ 33 then (if a0 ≤ 126 then (some (a0 != 92)) else (some false)) else (some false)) = some r := h
 clear h
 by_cases c2 : a0 ≥ 33
 ·rw [if_pos c2] at H
  have c2b0 : decide (33 ≤ a0) = true := decide_eq_true c2
  clear c2
  by_cases c3 : a0 ≤ 126
  ·rw [if_pos c3] at H
   have c3b0 : decide (a0 ≤ 126) = true := decide_eq_true c3
   clear c3
   obtain rfl := Option.some.inj H
   go_enter Tryz.func83, Tryz.ntmps83
   go_wp2
   go_ret
   exact ⟨Zr, Zd⟩
  ·rw [if_neg c3] at H
   have c3b0 : decide (a0 ≤ 126) = false := decide_eq_false c3
   clear c3
   obtain rfl := Option.some.inj H
   go_enter Tryz.func83, Tryz.ntmps83
   go_wp2
   go_ret
   exact ⟨Zr, Zd⟩
 ·rw [if_neg c2] at H
  have c2b0 : decide (33 ≤ a0) = false := decide_eq_false c2
  clear c2
  obtain rfl := Option.some.inj H
  go_enter Tryz.func83, Tryz.ntmps83
  go_wp2
  go_ret
  exact ⟨Zr, Zd⟩
end Go.Proofs.YtejdmofljifkbaaGreatDoor.P
namespace Go.Proofs.YtejdmofljifkbaaGreatDoor.P
open Go.RowKit Go.Proofs.YtejdmofljifkbaaGreatDoorW.PrintWords Go.Proofs.YtejdmofljifkbaaGreatDoorW.PrintLast Go.Proofs.YtejdmofljifkbaaGreatDoorW.PrintMore
attribute [local go_sem] max2_int min2_int max_two min_two max_three min_three max_four min_four   -- for this text's walks alone
set_option linter.unusedVariables false
set_option linter.unusedSimpArgs false
def oakumref02_code.f (a0 : Int) : Option (ByteArray) := some (strOfNums (([92, (48 + ((Int.tdiv a0 64) % 256)) % 256, 48 + (((Int.tdiv a0 8) % 256) % 8), (48 + (Int.tmod a0 8)) % 256] : List Int)))
set_option maxHeartbeats 8000000 in
set_option maxRecDepth 100000 in
theorem oakumref02_code.calls (a0 : Int) (r : ByteArray) (w : World) (h : oakumref02_code.f a0 = some r) :
  Calls Tryz.prog 84 #[.int .u8 a0] w fun e w' => e = .returned (.string r) ∧ Below w.heap.size w w' := by
 have HB := Aside0.mk (Below.refl w.heap.size w)
 have H : (some (strOfNums (([92, (48 + ((Int.tdiv a0 64) % 256)) % 256, 48 + (((Int.tdiv a0 8) % 256) % 8), (48 + (Int.tmod a0 8)) % 256] : List Int)))) = some r := h
 clear h
 obtain ⟨y297, hy297⟩ : ∃ y_ : List Int, y_ = (([92, (48 + ((Int.tdiv a0 64) % 256)) % 256, 48 + (((Int.tdiv a0 8) % 256) % 8), (48 + (Int.tmod a0 8)) % 256] : List Int)) := ⟨_, rfl⟩
 replace H : (some (strOfNums y297)) = some r := by first | (rw [hy297]; with_reducible exact H) | (have H2_ := (Option.bind_some _ _).symm.trans H; rw [hy297]; with_reducible exact H2_) | (have H2_ := (Option.bind_some _ _).symm.trans H; with_reducible exact H2_) | with_reducible exact H | (rw [hy297]; exact H) | exact H
 have Ny297 := Aside0.mk hy297
 clear hy297
 obtain rfl := Option.some.inj H
 go_enter Tryz.func84, Tryz.ntmps84
 go_wp2_with (first | ((with_reducible refine gate_dst (N := 13) rfl ?_); refine Kd.R_lit (Kd.int .u8) _ 5 ?hg (N := 13) ?hd (xs := ([92, (48 + ((Int.tdiv a0 64) % 256)) % 256, 48 + (((Int.tdiv a0 8) % 256) % 8), (48 + (Int.tmod a0 8)) % 256] : List Int)) (inner := [.int .u8 92, .int .u8 ((48 + ((Int.tdiv a0 64) % 256)) % 256), .int .u8 (48 + (((Int.tdiv a0 8) % 256) % 8)), .int .u8 ((48 + (Int.tmod a0 8)) % 256)]) (ok := fun _ => True) (okp := fun _ => True) ?hr ?hp (fun _ hk => hk) trivial (Below.refl _ _) (Nat.le_refl _) (by simp) ?_; (case hd => rfl); (case hg => rfl); (case hr => first | (go_simp; done) | (go_simp; rfl)); (case hp => exact (Reps.one (show Kd.M (Kd.int .u8) _ _ _ 92 [.int .u8 92] from rfl) (Reps.one (show Kd.M (Kd.int .u8) _ _ _ ((48 + ((Int.tdiv a0 64) % 256)) % 256) [.int .u8 ((48 + ((Int.tdiv a0 64) % 256)) % 256)] from rfl) (Reps.one (show Kd.M (Kd.int .u8) _ _ _ (48 + (((Int.tdiv a0 8) % 256) % 8)) [.int .u8 (48 + (((Int.tdiv a0 8) % 256) % 8))] from rfl) (Reps.one (show Kd.M (Kd.int .u8) _ _ _ ((48 + (Int.tmod a0 8)) % 256) [.int .u8 ((48 + (Int.tmod a0 8)) % 256)] from rfl) (Reps.none _ _)))))); intro v298 w2 ho3 hb hg_ hnew_; clear hg_ hnew_; (first | rw [← Ny297.out] at ho3 | (simp only [Int.reduceToNat] at ho3; rw [← Ny297.out] at ho3)); have HO299 := Aside0.mk (Kd.R_lower ho3 (below_size (Zh HB))); replace HB := Zs HB hb; clear hb ho3; have hcv4 := own_string (P := Tryz.prog) Tryz.underlying27 Tryz.underlying5 Tryz.underlying9 (Kd.own_of_R HO299.out)))
 go_ret
 exact ⟨Ze, Zh HB⟩
end Go.Proofs.YtejdmofljifkbaaGreatDoor.P
namespace Go.Proofs.YtejdmofljifkbaaGreatDoor.P
open Go.RowKit Go.Proofs.YtejdmofljifkbaaGreatDoorW.PrintWords Go.Proofs.YtejdmofljifkbaaGreatDoorW.PrintLast Go.Proofs.YtejdmofljifkbaaGreatDoorW.PrintMore
attribute [local go_sem] max2_int min2_int max_two min_two max_three min_three max_four min_four   -- for this text's walks alone
set_option linter.unusedVariables false
set_option linter.unusedSimpArgs false
def oakumref02_Quote.l0 : Nat → ByteArray → ByteArray → Int → Option (ByteArray)
 | 0, _, _, _ => none
 | k + 1, x0, x3, x4 => if x4 < (x0.size : Int) then (if 0 ≤ x4 then ((oakumref02_open.f (bt x0 x4)).bind fun t300 => (if t300 = true then (if x4 ≤ (wrap64 (x4 + 1)) then (if (wrap64 (x4 + 1)) ≤ (x0.size : Int) then (if x3.size + (x0.extract (x4 : Int).toNat ((wrap64 (x4 + 1)) : Int).toNat).size ≤ 9223372036854775807 then (oakumref02_Quote.l0 k x0 (x3 ++ (x0.extract (x4 : Int).toNat ((wrap64 (x4 + 1)) : Int).toNat)) (wrap64 (x4 + 1))) else (none)) else (none)) else (none)) else ((oakumref02_code.f (bt x0 x4)).bind fun t301 => (if x3.size + t301.size ≤ 9223372036854775807 then (oakumref02_Quote.l0 k x0 (x3 ++ t301) (wrap64 (x4 + 1))) else (none))))) else (none)) else (some x3)
def oakumref02_Quote.f (k : Nat) (a0 : ByteArray) : Option (ByteArray) := oakumref02_Quote.l0 k a0 (⟨#[]⟩ : ByteArray) 0
set_option maxHeartbeats 8000000 in
set_option maxRecDepth 100000 in
theorem oakumref02_Quote.calls (k : Nat) (a0 : ByteArray) (r : ByteArray) (w : World) (h : oakumref02_Quote.f k a0 = some r) :
  Calls Tryz.prog 38 #[.string a0] w fun e w' => e = .returned (.string r) ∧ Below w.heap.size w w' := by
 have HB := Aside0.mk (Below.refl w.heap.size w)
 have H : (oakumref02_Quote.l0 k a0 (⟨#[]⟩ : ByteArray) 0) = some r := h
 clear h
 have H' := Aside0.mk H
 clear H
 go_enter Tryz.func38, Tryz.ntmps38
 go_wp2
 go_loopg [3, 4] k (fun kq v3 v4 w' => ∃ (x3_1 : ByteArray) (x4_1 : Int), v3 = .string x3_1 ∧ v4 = .int .i64 x4_1 ∧ Aside0 (oakumref02_Quote.l0 kq a0 x3_1 x4_1 = some r) ∧ Aside0 (kq ≤ k) ∧ Aside0 (Below w.heap.size w w'))
 case atStart => exact ⟨((⟨#[]⟩ : ByteArray)), (0), Zr, Zr, H', ⟨Nat.le_refl _⟩, ⟨Zh HB⟩⟩
 case round =>
  clear H'
  obtain ⟨x3_1, x4_1, rfl, rfl, HA, HK1, HB⟩ := hrel
  cases gk with
  | zero => exact absurd HA.out (by simp [oakumref02_Quote.l0])
  | succ k1 =>
   have H := HA.out
   clear HA
   simp only [oakumref02_Quote.l0] at H
   by_cases c2 : x4_1 < (a0.size : Int)
   ·rw [if_pos c2] at H
    have c2b0 : decide (x4_1 < (a0.size : Int)) = true := decide_eq_true c2
    clear c2
    by_cases c3 : 0 ≤ x4_1
    ·rw [if_pos c3] at H
     have c3b0 : decide (0 ≤ x4_1) = true := decide_eq_true c3
     clear c3
     obtain ⟨t300, A50, H⟩ := Zk H
     have A5 := Aside0.mk A50
     clear A50
     by_cases c6 : t300 = true
     ·subst c6
      rw [if_pos rfl] at H
      have c7b0 := eq_true (of_decide_eq_true Zy : 0 ≤ x4_1)
      by_cases c8 : x4_1 ≤ (wrap64 (x4_1 + 1))
      ·rw [if_pos c8] at H
       have c8b0 := eq_true c8
       have c8b1 : decide (x4_1 ≤ (wrap64 (x4_1 + 1))) = true := decide_eq_true c8
       by_cases c9 : (wrap64 (x4_1 + 1)) ≤ (a0.size : Int)
       ·rw [if_pos c9] at H
        have c9b0 := eq_true c9
        have c9b1 : decide ((wrap64 (x4_1 + 1)) ≤ (a0.size : Int)) = true := decide_eq_true c9
        by_cases c10 : x3_1.size + (a0.extract (x4_1 : Int).toNat ((wrap64 (x4_1 + 1)) : Int).toNat).size ≤ 9223372036854775807
        ·rw [if_pos c10] at H
         have c10b0 := eq_true c10
         have c10b1 : decide (x3_1.size + (a0.extract (x4_1 : Int).toNat ((wrap64 (x4_1 + 1)) : Int).toNat).size ≤ 9223372036854775807) = true := decide_eq_true c10
         try have c10b2 : (9223372036854775807 < x3_1.size + (a0.extract (x4_1 : Int).toNat ((wrap64 (x4_1 + 1)) : Int).toNat).size) = False := eq_false (Nat.not_lt.2 c10)
         try (have c10b9 := c10b1; simp only [ByteArray.size_extract, Nat.min_self] at c10b9)
         have H' := Aside0.mk H
         clear H
         have p4 : 0 ≤ (x4_1 : Int) := of_decide_eq_true Zy
         have q4 : x4_1 < (a0.size : Int) := of_decide_eq_true Zy
         have hx4 := bt_at a0 x4_1
         replace p4 := eq_true p4
         replace q4 := eq_true q4
         go_wp2_with (first | ((with_reducible refine gate_callee (f := 83) rfl ?_); refine goesL_ (some 14) rfl rfl Tryz.func83 (by kernel_rfl) rfl #[.int .u8 (bt a0 x4_1)] rfl Zv ?_; (with_reducible refine (oakumref02_open.calls (bt a0 x4_1) true _ A5.out).mono ?_); rintro e w' ⟨rfl, ⟨nd, rfl⟩⟩; refine ⟨_, rfl, ?_⟩))
         go_roundg k1
         case measure => have := HK1.out; omega
         case rel => exact ⟨(x3_1 ++ (a0.extract (x4_1 : Int).toNat ((wrap64 (x4_1 + 1)) : Int).toNat)), (wrap64 (x4_1 + 1)), Zr, Zr, H', ⟨by have := HK1.out; omega⟩, ⟨Zh HB⟩⟩
        ·rw [if_neg c10] at H
         exact absurd H (by simp)
       ·rw [if_neg c9] at H
        exact absurd H (by simp)
      ·rw [if_neg c8] at H
       exact absurd H (by simp)
     ·replace c6 := Bool.eq_false_iff.mpr c6
      subst c6
      rw [Zf] at H
      obtain ⟨t301, A120, H⟩ := Zk H
      have A12 := Aside0.mk A120
      clear A120
      by_cases c13 : x3_1.size + t301.size ≤ 9223372036854775807
      ·rw [if_pos c13] at H
       have c13b0 := eq_true c13
       have c13b1 : decide (x3_1.size + t301.size ≤ 9223372036854775807) = true := decide_eq_true c13
       try have c13b2 : (9223372036854775807 < x3_1.size + t301.size) = False := eq_false (Nat.not_lt.2 c13)
       have H' := Aside0.mk H
       clear H
       have p4 : 0 ≤ (x4_1 : Int) := of_decide_eq_true Zy
       have q4 : x4_1 < (a0.size : Int) := of_decide_eq_true Zy
       have hx4 := bt_at a0 x4_1
       replace p4 := eq_true p4
       replace q4 := eq_true q4
       go_wp2_with (first | ((with_reducible refine gate_callee (f := 83) rfl ?_); refine goesL_ (some 14) rfl rfl Tryz.func83 (by kernel_rfl) rfl #[.int .u8 (bt a0 x4_1)] rfl Zv ?_; (with_reducible refine (oakumref02_open.calls (bt a0 x4_1) false _ A5.out).mono ?_); rintro e w' ⟨rfl, ⟨nd, rfl⟩⟩; refine ⟨_, rfl, ?_⟩; have p11 : 0 ≤ (x4_1 : Int) := of_decide_eq_true Zy; have q11 : x4_1 < (a0.size : Int) := of_decide_eq_true Zy; have hx11 := bt_at a0 x4_1; replace p11 := eq_true p11; replace q11 := eq_true q11) | ((with_reducible refine gate_callee (f := 84) rfl ?_); refine goesL_ (some 26) rfl rfl Tryz.func84 (by kernel_rfl) rfl #[.int .u8 (bt a0 x4_1)] rfl Zv ?_; (with_reducible refine (oakumref02_code.calls (bt a0 x4_1) t301 _ A12.out).mono ?_); rintro e w14 ⟨rfl, hb⟩; refine ⟨_, rfl, ?_⟩; replace HB := Zs HB hb; try clear hb))
       go_roundg k1
       case measure => have := HK1.out; omega
       case rel => exact ⟨(x3_1 ++ t301), (wrap64 (x4_1 + 1)), Zr, Zr, H', ⟨by have := HK1.out; omega⟩, ⟨Zh HB⟩⟩
      ·rw [if_neg c13] at H
       exact absurd H (by simp)
    ·rw [if_neg c3] at H
     exact absurd H (by simp)
   ·rw [if_neg c2] at H
    have c2b0 : decide (x4_1 < (a0.size : Int)) = false := decide_eq_false c2
    clear c2
    obtain rfl := Option.some.inj H
    go_wp2
    go_ret
    exact ⟨Ze, Zh HB⟩
end Go.Proofs.YtejdmofljifkbaaGreatDoor.P
namespace Go.Proofs.YtejdmofljifkbaaGreatDoor.P
open Go.RowKit Go.Proofs.YtejdmofljifkbaaGreatDoorW.PrintWords Go.Proofs.YtejdmofljifkbaaGreatDoorW.PrintLast Go.Proofs.YtejdmofljifkbaaGreatDoorW.PrintMore
attribute [local go_sem] max2_int min2_int max_two min_two max_three min_three max_four min_four   -- for this text's walks alone
set_option linter.unusedVariables false
set_option linter.unusedSimpArgs false
def oakumref23_owner.f (k : Nat) (a0 : ByteArray) (a1 : Int) : Option (ByteArray) := if a0.toList = ([] : List UInt8) then ((oakumref04_Text.f k a1).bind fun t302 => (some t302)) else ((oakumref02_Quote.f k a0).bind fun t303 => (some t303))
set_option maxHeartbeats 8000000 in
set_option maxRecDepth 100000 in
theorem oakumref23_owner.calls (k : Nat) (a0 : ByteArray) (a1 : Int) (r : ByteArray) (w : World) (h : oakumref23_owner.f k a0 a1 = some r) :
  Calls Tryz.prog 34 #[.string a0, .int .i64 a1] w fun e w' => e = .returned (.string r) ∧ Below w.heap.size w w' := by
 have HB := Aside0.mk (Below.refl w.heap.size w)
 have H : (if a0.toList = ([] : List UInt8) then ((oakumref04_Text.f k a1).bind fun t302 => (some t302)) else ((oakumref02_Quote.f k a0).bind fun t303 => (some t303))) = some r := h
 clear h
 by_cases c3 : a0.toList = ([] : List UInt8)
 ·rw [if_pos c3] at H
  have c3b0 : (a0.toList == ([] : List UInt8)) = true := beq_iff_eq.mpr c3
  have c3b1 : (a0.toList != ([] : List UInt8)) = false := bne_eq_false_iff_eq.mpr c3
  clear c3
  obtain ⟨t302, A40, H⟩ := Zk H
  have A4 := Aside0.mk A40
  clear A40
  obtain rfl := Option.some.inj H
  go_enter Tryz.func34, Tryz.ntmps34
  go_wp2_with (first | ((with_reducible refine gate_callee (f := 35) rfl ?_); refine goesL_ (some 8) rfl rfl Tryz.func35 (by kernel_rfl) rfl #[.int .i64 a1] rfl Zv ?_; (with_reducible refine (oakumref04_Text.calls k a1 t302 _ A4.out).mono ?_); rintro e w5 ⟨rfl, hb⟩; refine ⟨_, rfl, ?_⟩; replace HB := Zs HB hb; try clear hb))
  go_ret
  exact ⟨Ze, Zh HB⟩
 ·rw [if_neg c3] at H
  have c3b0 : (a0.toList == ([] : List UInt8)) = false := beq_eq_false_iff_ne.mpr c3
  have c3b1 : (a0.toList != ([] : List UInt8)) = true := bne_iff_ne.mpr c3
  obtain ⟨t303, A60, H⟩ := Zk H
  have A6 := Aside0.mk A60
  clear A60
  obtain rfl := Option.some.inj H
  go_enter Tryz.func34, Tryz.ntmps34
  go_wp2_with (first | ((with_reducible refine gate_callee (f := 38) rfl ?_); refine goesL_ (some 10) rfl rfl Tryz.func38 (by kernel_rfl) rfl #[.string a0] rfl Zv ?_; (with_reducible refine (oakumref02_Quote.calls k a0 t303 _ A6.out).mono ?_); rintro e w7 ⟨rfl, hb⟩; refine ⟨_, rfl, ?_⟩; replace HB := Zs HB hb; try clear hb))
  go_ret
  exact ⟨Ze, Zh HB⟩
end Go.Proofs.YtejdmofljifkbaaGreatDoor.P
namespace Go.Proofs.YtejdmofljifkbaaGreatDoor.P
open Go.RowKit Go.Proofs.YtejdmofljifkbaaGreatDoorW.PrintWords Go.Proofs.YtejdmofljifkbaaGreatDoorW.PrintLast Go.Proofs.YtejdmofljifkbaaGreatDoorW.PrintMore
attribute [local go_sem] max2_int min2_int max_two min_two max_three min_three max_four min_four   -- for this text's walks alone
set_option linter.unusedVariables false
set_option linter.unusedSimpArgs false
def list_owner.f (a0 : ByteArray) (a1 : Int) : Option (ByteArray) := if a0.toList = ([] : List UInt8) then ((dec_Text.f a1).bind fun t154 => (some t154)) else ((text_Quote.f a0).bind fun t155 => (some t155))
set_option maxHeartbeats 8000000 in
set_option maxRecDepth 100000 in
theorem list_owner.calls (a0 : ByteArray) (a1 : Int) (r : ByteArray) (w : World) (hG : Glob w) (h : list_owner.f a0 a1 = some r) :
  Calls Tryz.prog 28 #[.string a0, .int .i64 a1] w fun e w' => e = .returned (.string r) ∧ Below w.heap.size w w' := by
 have HG := Aside0.mk hG; clear hG
 have HB := Aside0.mk (Below.refl w.heap.size w)
 have H : (if a0.toList = ([] : List UInt8) then ((dec_Text.f a1).bind fun t154 => (some t154)) else ((text_Quote.f a0).bind fun t155 => (some t155))) = some r := h
 clear h
 by_cases c3 : a0.toList = ([] : List UInt8)
 ·rw [if_pos c3] at H
  have c3b0 : (a0.toList == ([] : List UInt8)) = true := beq_iff_eq.mpr c3
  have c3b1 : (a0.toList != ([] : List UInt8)) = false := bne_eq_false_iff_eq.mpr c3
  clear c3
  obtain ⟨t154, A40, H⟩ := Zk H
  have A4 := Aside0.mk A40
  clear A40
  obtain rfl := Option.some.inj H
  go_enter Tryz.func28, Tryz.ntmps28
  go_wp2_with (first | ((with_reducible refine gate_callee (f := 26) rfl ?_); refine goesL_ (some 8) rfl rfl Tryz.func26 (by kernel_rfl) rfl #[.int .i64 a1] rfl Zv ?_; (with_reducible refine (dec_Text.calls a1 t154 _ ?side1 A4.out).mono ?_); (case side1 => exact ZG HG HB); rintro e w5 ⟨rfl, hb⟩; refine ⟨_, rfl, ?_⟩; replace HB := Zs HB hb; try clear hb))
  go_ret
  exact ⟨Ze, Zh HB⟩
 ·rw [if_neg c3] at H
  have c3b0 : (a0.toList == ([] : List UInt8)) = false := beq_eq_false_iff_ne.mpr c3
  have c3b1 : (a0.toList != ([] : List UInt8)) = true := bne_iff_ne.mpr c3
  obtain ⟨t155, A60, H⟩ := Zk H
  have A6 := Aside0.mk A60
  clear A60
  obtain rfl := Option.some.inj H
  go_enter Tryz.func28, Tryz.ntmps28
  go_wp2_with (first | ((with_reducible refine gate_callee (f := 31) rfl ?_); refine goesL_ (some 10) rfl rfl Tryz.func31 (by kernel_rfl) rfl #[.string a0] rfl Zv ?_; (with_reducible refine (text_Quote.calls a0 t155 _ A6.out).mono ?_); rintro e w7 ⟨rfl, hb⟩; refine ⟨_, rfl, ?_⟩; replace HB := Zs HB hb; try clear hb))
  go_ret
  exact ⟨Ze, Zh HB⟩
end Go.Proofs.YtejdmofljifkbaaGreatDoor.P
namespace Go.Proofs.YtejdmofljifkbaaGreatDoor.P
open Go.RowKit Go.Proofs.YtejdmofljifkbaaGreatDoorW.PrintWords Go.Proofs.YtejdmofljifkbaaGreatDoorW.PrintLast Go.Proofs.YtejdmofljifkbaaGreatDoorW.PrintMore
attribute [local go_sem] max2_int min2_int max_two min_two max_three min_three max_four min_four   -- for this text's walks alone
set_option linter.unusedVariables false
set_option linter.unusedSimpArgs false
mutual
def oakumref23_bit.j0 : Nat → Int → Int → Option (Bool)
 | 0, _, _ => none
 | k + 1, x1, x5 => oakumref23_bit.l0 k x1 x5 0
def oakumref23_bit.l0 : Nat → Int → Int → Int → Option (Bool)
 | 0, _, _, _ => none
 | k + 1, x1, x5, x6 => if x6 < x1 then (oakumref23_bit.l0 k x1 (wrap64 (Int.tdiv x5 2)) (wrap64 (x6 + 1))) else (some ((Int.tmod x5 2) == 1))
end
def oakumref23_bit.f (k : Nat) (a0 : Int) (a1 : Int) : Option (Bool) := if (Int.tmod a0 4096) < 0 then (oakumref23_bit.j0 k a1 (wrap64 ((Int.tmod a0 4096) + 4096))) else (oakumref23_bit.j0 k a1 (Int.tmod a0 4096))
theorem oakumref23_bit.mono_l : ∀ k, (∀ y0 y1, LeO (oakumref23_bit.j0 k y0 y1) (oakumref23_bit.j0 (k + 1) y0 y1)) ∧ (∀ y0 y1 y2, LeO (oakumref23_bit.l0 k y0 y1 y2) (oakumref23_bit.l0 (k + 1) y0 y1 y2))
 | 0 => ⟨fun _ _ r h => by simp [oakumref23_bit.j0] at h, fun _ _ _ r h => by simp [oakumref23_bit.l0] at h⟩
 | k + 1 => by
  obtain ⟨ih0, ih1⟩ := oakumref23_bit.mono_l k
  refine ⟨?_, ?_⟩
  ·intro y0 y1
   unfold oakumref23_bit.j0
   with_reducible repeat' first | exact ih0 _ _ | exact ih1 _ _ _ | exact LeO.refl _ | exact LeO.none _ | refine LeO.ite ?_ ?_ | refine LeO.bind ?_ (fun _ => ?_)
  ·intro y0 y1 y2
   unfold oakumref23_bit.l0
   with_reducible repeat' first | exact ih0 _ _ | exact ih1 _ _ _ | exact LeO.refl _ | exact LeO.none _ | refine LeO.ite ?_ ?_ | refine LeO.bind ?_ (fun _ => ?_)
theorem oakumref23_bit.mono : ∀ a0 a1 k, LeO (oakumref23_bit.f k a0 a1) (oakumref23_bit.f (k + 1) a0 a1) := by
 intro a0 a1 k
 obtain ⟨ih0, ih1⟩ := oakumref23_bit.mono_l k
 unfold oakumref23_bit.f
 with_reducible repeat' first | exact ih0 _ _ | exact ih1 _ _ _ | exact LeO.refl _ | exact LeO.none _ | refine LeO.ite ?_ ?_ | refine LeO.bind ?_ (fun _ => ?_)
set_option maxHeartbeats 8000000 in
set_option maxRecDepth 100000 in
theorem oakumref23_bit.calls (k : Nat) (a0 : Int) (a1 : Int) (r : Bool) (w : World) (h : oakumref23_bit.f k a0 a1 = some r) :
  Calls Tryz.prog 77 #[.int .i64 a0, .int .i64 a1] w fun e w' => e = .returned (.bool r) ∧ Drawn0 w w' := by
 have H : (if (Int.tmod a0 4096) < 0 then (oakumref23_bit.j0 k a1 (wrap64 ((Int.tmod a0 4096) + 4096))) else (oakumref23_bit.j0 k a1 (Int.tmod a0 4096))) = some r := h
 clear h
 have HC3 := Aside0.mk H; clear H
 go_enter Tryz.func77, Tryz.ntmps77
 go_upto_if 10 with (fail)
 go_cut [5] (fun v5 wc => ∃ (kq : Nat) (x5_2 : Int), v5 = .int .i64 x5_2 ∧ Aside0 (oakumref23_bit.j0 kq a1 x5_2 = some r) ∧ Aside0 (kq ≤ k) ∧ Drawn0 w wc)
 case first =>
  have H := HC3.out
  clear HC3
  by_cases c4 : (Int.tmod a0 4096) < 0
  ·rw [if_pos c4] at H
   have c4b0 : decide ((Int.tmod a0 4096) < 0) = true := decide_eq_true c4
   clear c4
   (first | rw [c4b0] | (simp only [i64_w, i32_w]; rw [c4b0]) | skip)
   have H' := Aside0.mk H
   clear H
   go_wp2
   go_meet
   case rel => exact ⟨_, (wrap64 ((Int.tmod a0 4096) + 4096)), Zr, H', Zl, Zd⟩
  ·rw [if_neg c4] at H
   have c4b0 : decide ((Int.tmod a0 4096) < 0) = false := decide_eq_false c4
   clear c4
   (first | rw [c4b0] | (simp only [i64_w, i32_w]; rw [c4b0]) | skip)
   have H' := Aside0.mk H
   clear H
   go_wp2
   go_meet
   case rel => exact ⟨_, (Int.tmod a0 4096), Zr, H', Zl, Zd⟩
 case rest =>
  clear HC3
  try clear p2
  try clear c4
  try clear c4b0
  obtain ⟨kq, x5_2, rfl, HA, HJ2, ⟨mc2, rfl⟩⟩ := hcut
  cases kq with
  | zero => exact absurd HA.out (by simp [oakumref23_bit.j0])
  | succ kj2 =>
   have H := HA.out
   clear HA
   simp only [oakumref23_bit.j0] at H
   have H' := Aside0.mk H
   clear H
   go_wp2
   go_loopg [5, 6] kj2 (fun kq v5 v6 w' => ∃ (x5_2 : Int) (x6_2 : Int), v5 = .int .i64 x5_2 ∧ v6 = .int .i64 x6_2 ∧ Aside0 (oakumref23_bit.l0 kq a1 x5_2 x6_2 = some r) ∧ Aside0 (kq ≤ kj2) ∧ Drawn0 w w')
   case atStart => exact ⟨(x5_2), (0), Zr, Zr, H', ⟨Nat.le_refl _⟩, Zd⟩
   case round =>
    clear H'
    try clear c2
    try clear p2
    try clear c4
    try clear c4b0
    try clear p2
    obtain ⟨x5_2, x6_2, rfl, rfl, HA, HK2, ⟨m2, rfl⟩⟩ := hrel
    cases gk with
    | zero => exact absurd HA.out (by simp [oakumref23_bit.l0])
    | succ k2 =>
     have H := HA.out
     clear HA
     simp only [oakumref23_bit.l0] at H
     by_cases c5 : x6_2 < a1
     ·rw [if_pos c5] at H
      have c5b0 : decide (x6_2 < a1) = true := decide_eq_true c5
      clear c5
      have H' := Aside0.mk H
      clear H
      go_wp2
      go_roundg k2
      case measure => have := HJ2.out; have := HK2.out; omega
      case rel => exact ⟨(wrap64 (Int.tdiv x5_2 2)), (wrap64 (x6_2 + 1)), Zr, Zr, H', ⟨by have := HJ2.out; have := HK2.out; omega⟩, Zd⟩
     ·rw [if_neg c5] at H
      have c5b0 : decide (x6_2 < a1) = false := decide_eq_false c5
      clear c5
      obtain rfl := Option.some.inj H
      go_wp2
      go_ret
      exact ⟨Zr, Zd⟩
end Go.Proofs.YtejdmofljifkbaaGreatDoor.P
namespace Go.Proofs.YtejdmofljifkbaaGreatDoor.P
open Go.RowKit Go.Proofs.YtejdmofljifkbaaGreatDoorW.PrintWords Go.Proofs.YtejdmofljifkbaaGreatDoorW.PrintLast Go.Proofs.YtejdmofljifkbaaGreatDoorW.PrintMore
attribute [local go_sem] max2_int min2_int max_two min_two max_three min_three max_four min_four   -- for this text's walks alone
set_option linter.unusedVariables false
set_option linter.unusedSimpArgs false
mutual
def oakumref23_Signs.j0 : Nat → Int → Int → ByteArray → Bool → Option (ByteArray)
 | 0, _, _, _, _ => none
 | k + 1, x0, x1, x5, x14 => if x14 = true then ((some (([(⟨#[45]⟩ : ByteArray), (⟨#[104]⟩ : ByteArray), (⟨#[108]⟩ : ByteArray), (⟨#[99]⟩ : ByteArray), (⟨#[98]⟩ : ByteArray), (⟨#[100]⟩ : ByteArray), (⟨#[112]⟩ : ByteArray)] : List ByteArray) : List ByteArray)).bind fun y271 => (if 0 ≤ (wrap64 (x0 - 1)) then (if (wrap64 (x0 - 1)) < (y271.length : Int) then (oakumref23_Signs.j1 k x1 (rdOf ByteArray.empty y271 (wrap64 (x0 - 1)))) else (none)) else (none))) else (oakumref23_Signs.j1 k x1 x5)
def oakumref23_Signs.j1 : Nat → Int → ByteArray → Option (ByteArray)
 | 0, _, _ => none
 | k + 1, x1, x5 => oakumref23_Signs.l0 k x1 x5 0
def oakumref23_Signs.l0 : Nat → Int → ByteArray → Int → Option (ByteArray)
 | 0, _, _, _ => none
 | k + 1, x1, x5, x6 => if x6 < 9 then ((oakumref23_bit.f k x1 (wrap64 (8 - x6))).bind fun t275 => (if t275 = true then ((some (([(⟨#[114]⟩ : ByteArray), (⟨#[119]⟩ : ByteArray), (⟨#[120]⟩ : ByteArray)] : List ByteArray) : List ByteArray)).bind fun y276 => (if 0 ≤ (Int.tmod x6 3) then (if (Int.tmod x6 3) < (y276.length : Int) then (oakumref23_Signs.j3 k x1 x5 x6 (rdOf ByteArray.empty y276 (Int.tmod x6 3))) else (none)) else (none))) else (oakumref23_Signs.j3 k x1 x5 x6 (⟨#[45]⟩ : ByteArray)))) else (some x5)
def oakumref23_Signs.j3 : Nat → Int → ByteArray → Int → ByteArray → Option (ByteArray)
 | 0, _, _, _, _ => none
 | k + 1, x1, x5, x6, x7 => if (Int.tmod x6 3) = 2 then ((oakumref23_bit.f k x1 (wrap64 (11 - (wrap64 (Int.tdiv x6 3))))).bind fun t280 => (oakumref23_Signs.j4 k x1 x5 x6 x7 t280)) else (oakumref23_Signs.j4 k x1 x5 x6 x7 false)
def oakumref23_Signs.j4 : Nat → Int → ByteArray → Int → ByteArray → Bool → Option (ByteArray)
 | 0, _, _, _, _, _ => none
 | k + 1, x1, x5, x6, x7, x42 => if x42 = true then ((some (([(⟨#[115]⟩ : ByteArray), (⟨#[115]⟩ : ByteArray), (⟨#[116]⟩ : ByteArray), (⟨#[83]⟩ : ByteArray), (⟨#[83]⟩ : ByteArray), (⟨#[84]⟩ : ByteArray)] : List ByteArray) : List ByteArray)).bind fun y281 => (if x7.toList = ([120] : List UInt8) then (if 0 ≤ (wrap64 (Int.tdiv x6 3)) then (if (wrap64 (Int.tdiv x6 3)) < (y281.length : Int) then (if x5.size + (rdOf ByteArray.empty y281 (wrap64 (Int.tdiv x6 3))).size ≤ 9223372036854775807 then (oakumref23_Signs.l0 k x1 (x5 ++ (rdOf ByteArray.empty y281 (wrap64 (Int.tdiv x6 3)))) (wrap64 (x6 + 1))) else (none)) else (none)) else (none)) else (if 0 ≤ (wrap64 (3 + (wrap64 (Int.tdiv x6 3)))) then (if (wrap64 (3 + (wrap64 (Int.tdiv x6 3)))) < (y281.length : Int) then (if x5.size + (rdOf ByteArray.empty y281 (wrap64 (3 + (wrap64 (Int.tdiv x6 3))))).size ≤ 9223372036854775807 then (oakumref23_Signs.l0 k x1 (x5 ++ (rdOf ByteArray.empty y281 (wrap64 (3 + (wrap64 (Int.tdiv x6 3)))))) (wrap64 (x6 + 1))) else (none)) else (none)) else (none)))) else (if x5.size + x7.size ≤ 9223372036854775807 then (oakumref23_Signs.l0 k x1 (x5 ++ x7) (wrap64 (x6 + 1))) else (none))
end
def oakumref23_Signs.f (k : Nat) (a0 : Int) (a1 : Int) : Option (ByteArray) := if a0 ≥ 1 then (oakumref23_Signs.j0 k a0 a1 (⟨#[63]⟩ : ByteArray) (decide (a0 ≤ 7))) else (oakumref23_Signs.j0 k a0 a1 (⟨#[63]⟩ : ByteArray) false)
theorem oakumref23_Signs.mono_l : ∀ k, (∀ y0 y1 y2 y3, LeO (oakumref23_Signs.j0 k y0 y1 y2 y3) (oakumref23_Signs.j0 (k + 1) y0 y1 y2 y3)) ∧ (∀ y0 y1, LeO (oakumref23_Signs.j1 k y0 y1) (oakumref23_Signs.j1 (k + 1) y0 y1)) ∧ (∀ y0 y1 y2, LeO (oakumref23_Signs.l0 k y0 y1 y2) (oakumref23_Signs.l0 (k + 1) y0 y1 y2)) ∧ (∀ y0 y1 y2 y3, LeO (oakumref23_Signs.j3 k y0 y1 y2 y3) (oakumref23_Signs.j3 (k + 1) y0 y1 y2 y3)) ∧ (∀ y0 y1 y2 y3 y4, LeO (oakumref23_Signs.j4 k y0 y1 y2 y3 y4) (oakumref23_Signs.j4 (k + 1) y0 y1 y2 y3 y4))
 | 0 => ⟨fun _ _ _ _ r h => by simp [oakumref23_Signs.j0] at h, fun _ _ r h => by simp [oakumref23_Signs.j1] at h, fun _ _ _ r h => by simp [oakumref23_Signs.l0] at h, fun _ _ _ _ r h => by simp [oakumref23_Signs.j3] at h, fun _ _ _ _ _ r h => by simp [oakumref23_Signs.j4] at h⟩
 | k + 1 => by
  obtain ⟨ih0, ih1, ih2, ih3, ih4⟩ := oakumref23_Signs.mono_l k
  refine ⟨?_, ?_, ?_, ?_, ?_⟩
  ·intro y0 y1 y2 y3
   unfold oakumref23_Signs.j0
   with_reducible repeat' first | exact ih0 _ _ _ _ | exact ih1 _ _ | exact ih2 _ _ _ | exact ih3 _ _ _ _ | exact ih4 _ _ _ _ _ | exact oakumref23_bit.mono _ _ _ | exact LeO.refl _ | exact LeO.none _ | refine LeO.ite ?_ ?_ | refine LeO.bind ?_ (fun _ => ?_)
  ·intro y0 y1
   unfold oakumref23_Signs.j1
   with_reducible repeat' first | exact ih0 _ _ _ _ | exact ih1 _ _ | exact ih2 _ _ _ | exact ih3 _ _ _ _ | exact ih4 _ _ _ _ _ | exact oakumref23_bit.mono _ _ _ | exact LeO.refl _ | exact LeO.none _ | refine LeO.ite ?_ ?_ | refine LeO.bind ?_ (fun _ => ?_)
  ·intro y0 y1 y2
   unfold oakumref23_Signs.l0
   with_reducible repeat' first | exact ih0 _ _ _ _ | exact ih1 _ _ | exact ih2 _ _ _ | exact ih3 _ _ _ _ | exact ih4 _ _ _ _ _ | exact oakumref23_bit.mono _ _ _ | exact LeO.refl _ | exact LeO.none _ | refine LeO.ite ?_ ?_ | refine LeO.bind ?_ (fun _ => ?_)
  ·intro y0 y1 y2 y3
   unfold oakumref23_Signs.j3
   with_reducible repeat' first | exact ih0 _ _ _ _ | exact ih1 _ _ | exact ih2 _ _ _ | exact ih3 _ _ _ _ | exact ih4 _ _ _ _ _ | exact oakumref23_bit.mono _ _ _ | exact LeO.refl _ | exact LeO.none _ | refine LeO.ite ?_ ?_ | refine LeO.bind ?_ (fun _ => ?_)
  ·intro y0 y1 y2 y3 y4
   unfold oakumref23_Signs.j4
   with_reducible repeat' first | exact ih0 _ _ _ _ | exact ih1 _ _ | exact ih2 _ _ _ | exact ih3 _ _ _ _ | exact ih4 _ _ _ _ _ | exact oakumref23_bit.mono _ _ _ | exact LeO.refl _ | exact LeO.none _ | refine LeO.ite ?_ ?_ | refine LeO.bind ?_ (fun _ => ?_)
theorem oakumref23_Signs.mono : ∀ a0 a1 k, LeO (oakumref23_Signs.f k a0 a1) (oakumref23_Signs.f (k + 1) a0 a1) := by
 intro a0 a1 k
 obtain ⟨ih0, ih1, ih2, ih3, ih4⟩ := oakumref23_Signs.mono_l k
 unfold oakumref23_Signs.f
 with_reducible repeat' first | exact ih0 _ _ _ _ | exact ih1 _ _ | exact ih2 _ _ _ | exact ih3 _ _ _ _ | exact ih4 _ _ _ _ _ | exact oakumref23_bit.mono _ _ _ | exact LeO.refl _ | exact LeO.none _ | refine LeO.ite ?_ ?_ | refine LeO.bind ?_ (fun _ => ?_)
set_option maxHeartbeats 8000000 in
set_option maxRecDepth 100000 in
theorem oakumref23_Signs.calls (k : Nat) (a0 : Int) (a1 : Int) (r : ByteArray) (w : World) (h : oakumref23_Signs.f k a0 a1 = some r) :
  Calls Tryz.prog 33 #[.int .i64 a0, .int .i64 a1] w fun e w' => e = .returned (.string r) ∧ Below w.heap.size w w' := by
 have HB := Aside0.mk (Below.refl w.heap.size w)
 have H : (if a0 ≥ 1 then (oakumref23_Signs.j0 k a0 a1 (⟨#[63]⟩ : ByteArray) (decide (a0 ≤ 7))) else (oakumref23_Signs.j0 k a0 a1 (⟨#[63]⟩ : ByteArray) false)) = some r := h
 clear h
 have HC3 := Aside0.mk H; clear H
 go_enter Tryz.func33, Tryz.ntmps33
 go_upto_region 2 with (fail)
 go_cut [14] (fun v14 wc => ∃ (kq : Nat) (x14_2 : Bool), v14 = .bool x14_2 ∧ Aside0 (oakumref23_Signs.j0 kq a0 a1 (⟨#[63]⟩ : ByteArray) x14_2 = some r) ∧ Aside0 (kq ≤ k) ∧ Aside0 (Below w.heap.size w wc))
 case first =>
  have H := HC3.out
  clear HC3
  by_cases c4 : a0 ≥ 1
  ·rw [if_pos c4] at H
   have c4b0 : decide (1 ≤ a0) = true := decide_eq_true c4
   clear c4
   (first | rw [c4b0] | (simp only [i64_w, i32_w]; rw [c4b0]) | skip)
   have H' := Aside0.mk H
   clear H
   go_wp2
   go_meet
   case rel => exact ⟨_, (decide (a0 ≤ 7)), Zr, H', Zl, ⟨Zh HB⟩⟩
  ·rw [if_neg c4] at H
   have c4b0 : decide (1 ≤ a0) = false := decide_eq_false c4
   clear c4
   (first | rw [c4b0] | (simp only [i64_w, i32_w]; rw [c4b0]) | skip)
   have H' := Aside0.mk H
   clear H
   go_wp2
   go_meet
   case rel => exact ⟨_, (false), Zr, H', Zl, ⟨Zh HB⟩⟩
 case rest =>
  clear HC3
  try clear p2
  try clear c3
  try clear c4
  try clear c4b0
  obtain ⟨kq, x14_2, rfl, HA, HJ2, HB⟩ := hcut
  cases kq with
  | zero => exact absurd HA.out (by simp [oakumref23_Signs.j0])
  | succ kj2 =>
   have H := HA.out
   clear HA
   simp only [oakumref23_Signs.j0] at H
   have HC5 := Aside0.mk H; clear H
   go_upto_if 14 with (fail)
   go_cut [5] (fun v5 wc => ∃ (kq : Nat) (x5_4 : ByteArray), v5 = .string x5_4 ∧ Aside0 (oakumref23_Signs.j1 kq a1 x5_4 = some r) ∧ Aside0 (kq ≤ kj2) ∧ Aside0 (Below w.heap.size w wc))
   case first =>
    have H := HC5.out
    clear HC5
    by_cases c6 : x14_2 = true
    ·subst c6
     rw [if_pos rfl] at H
     obtain ⟨y271, hy271⟩ : ∃ y_ : List ByteArray, y_ = (([(⟨#[45]⟩ : ByteArray), (⟨#[104]⟩ : ByteArray), (⟨#[108]⟩ : ByteArray), (⟨#[99]⟩ : ByteArray), (⟨#[98]⟩ : ByteArray), (⟨#[100]⟩ : ByteArray), (⟨#[112]⟩ : ByteArray)] : List ByteArray)) := ⟨_, rfl⟩
     replace H : (if 0 ≤ (wrap64 (a0 - 1)) then (if (wrap64 (a0 - 1)) < (y271.length : Int) then (oakumref23_Signs.j1 kj2 a1 (rdOf ByteArray.empty y271 (wrap64 (a0 - 1)))) else (none)) else (none)) = some r := by first | (rw [hy271]; with_reducible exact H) | (have H2_ := (Option.bind_some _ _).symm.trans H; rw [hy271]; with_reducible exact H2_) | (have H2_ := (Option.bind_some _ _).symm.trans H; with_reducible exact H2_) | with_reducible exact H | (rw [hy271]; exact H) | exact H
     have Ny271 := Aside0.mk hy271
     clear hy271
     obtain ⟨ji7, hji7⟩ : ∃ j_ : Int, (wrap64 (a0 - 1)) = j_ := ⟨_, rfl⟩
     replace H : (if 0 ≤ (ji7) then (if (ji7) < (y271.length : Int) then (oakumref23_Signs.j1 kj2 a1 (rdOf ByteArray.empty y271 (ji7))) else (none)) else (none)) = some r := by first | (rw [hji7] at H; exact H) | (simp only [hji7] at H ⊢; exact H)
     have hji7w : (IntKind.i64.wrap (a0 - 1)) = ji7 := (i64_w _).trans hji7
     by_cases c8 : 0 ≤ (ji7)
     ·rw [if_pos c8] at H
      have c8b0 : decide (0 ≤ (ji7)) = true := decide_eq_true c8
      clear c8
      (first | rw [c8b0] | (simp only [i64_w, i32_w]; rw [c8b0]) | skip)
      by_cases c9 : (ji7) < (y271.length : Int)
      ·rw [if_pos c9] at H
       have c9b0 : decide ((ji7) < (y271.length : Int)) = true := decide_eq_true c9
       clear c9
       have H' := Aside0.mk H
       clear H
       go_wp2_with (first | ((with_reducible refine gate_dst (N := 15) rfl ?_); refine Kd.R_lit Kd.string _ 9 ?hg (N := 15) ?hd (xs := ([(⟨#[45]⟩ : ByteArray), (⟨#[104]⟩ : ByteArray), (⟨#[108]⟩ : ByteArray), (⟨#[99]⟩ : ByteArray), (⟨#[98]⟩ : ByteArray), (⟨#[100]⟩ : ByteArray), (⟨#[112]⟩ : ByteArray)] : List ByteArray)) (inner := [.string (⟨#[45]⟩ : ByteArray), .string (⟨#[104]⟩ : ByteArray), .string (⟨#[108]⟩ : ByteArray), .string (⟨#[99]⟩ : ByteArray), .string (⟨#[98]⟩ : ByteArray), .string (⟨#[100]⟩ : ByteArray), .string (⟨#[112]⟩ : ByteArray)]) (ok := fun _ => True) (okp := fun _ => True) ?hr ?hp (fun _ hk => hk) trivial (Below.refl _ _) (Nat.le_refl _) (by simp) ?_; (case hd => rfl); (case hg => rfl); (case hr => first | (go_simp; done) | (go_simp; rfl)); (case hp => exact (Reps.one (show Kd.M Kd.string _ _ _ (⟨#[45]⟩ : ByteArray) [.string (⟨#[45]⟩ : ByteArray)] from rfl) (Reps.one (show Kd.M Kd.string _ _ _ (⟨#[104]⟩ : ByteArray) [.string (⟨#[104]⟩ : ByteArray)] from rfl) (Reps.one (show Kd.M Kd.string _ _ _ (⟨#[108]⟩ : ByteArray) [.string (⟨#[108]⟩ : ByteArray)] from rfl) (Reps.one (show Kd.M Kd.string _ _ _ (⟨#[99]⟩ : ByteArray) [.string (⟨#[99]⟩ : ByteArray)] from rfl) (Reps.one (show Kd.M Kd.string _ _ _ (⟨#[98]⟩ : ByteArray) [.string (⟨#[98]⟩ : ByteArray)] from rfl) (Reps.one (show Kd.M Kd.string _ _ _ (⟨#[100]⟩ : ByteArray) [.string (⟨#[100]⟩ : ByteArray)] from rfl) (Reps.one (show Kd.M Kd.string _ _ _ (⟨#[112]⟩ : ByteArray) [.string (⟨#[112]⟩ : ByteArray)] from rfl) (Reps.none _ _))))))))); intro v272 w10 ho11 hb hg_ hnew_; clear hg_ hnew_; (first | rw [← Ny271.out] at ho11 | (simp only [Int.reduceToNat] at ho11; rw [← Ny271.out] at ho11)); have HO273 := Aside0.mk (Kd.R_lower ho11 (below_size (Zh HB))); replace HB := Zs HB hb; clear hb ho11; obtain ⟨Ao12, co12, eo12⟩ := Kd.R_slice HO273.out; subst eo12; have p274 : 0 ≤ ((ji7) : Int) := of_decide_eq_true Zy; have q274 : (ji7) < (y271.length : Int) := of_decide_eq_true Zy; obtain ⟨ad274, e274, hx274_0⟩ := Kd.at_string (Kd.R_reads' HO273.out).2.2 (ji7) p274 q274; cases e274; replace p274 := eq_true p274; replace q274 := eq_true q274))
       go_meet
       case rel => exact ⟨_, (rdOf ByteArray.empty y271 (ji7)), (by first | rfl | (simp; done) | (simp only [← hji7] <;> (first | rfl | simp)) | (simp [*]; done) | (simp [nil_bne]; done) | (simp [*, nil_bne]; done)), H', (Zm HJ2), ⟨Zh HB⟩⟩
      ·rw [if_neg c9] at H
       exact absurd H (by simp)
     ·rw [if_neg c8] at H
      exact absurd H (by simp)
    ·replace c6 := Bool.eq_false_iff.mpr c6
     subst c6
     rw [Zf] at H
     have H' := Aside0.mk H
     clear H
     go_wp2
     go_meet
     case rel => exact ⟨_, ((⟨#[63]⟩ : ByteArray)), Zr, H', (Zm HJ2), ⟨Zh HB⟩⟩
   case rest =>
    clear HC5
    try clear p2
    try clear q2
    try clear hx2
    try clear c3
    try clear c4
    try clear c4b0
    try clear c6
    try clear p6
    try clear c8
    try clear c8b0
    try clear c9
    try clear c9b0
    try clear hx274_0
    try clear p2
    try clear p274
    try clear q274
    obtain ⟨kq, x5_4, rfl, HA, HJ4, HB⟩ := hcut
    cases kq with
    | zero => exact absurd HA.out (by simp [oakumref23_Signs.j1])
    | succ kj4 =>
     have H := HA.out
     clear HA
     simp only [oakumref23_Signs.j1] at H
     have H' := Aside0.mk H
     clear H
     go_wp2
     go_loopg [5, 6] kj4 (fun kq v5 v6 w' => ∃ (x5_3 : ByteArray) (x6_3 : Int), v5 = .string x5_3 ∧ v6 = .int .i64 x6_3 ∧ Aside0 (oakumref23_Signs.l0 kq a1 x5_3 x6_3 = some r) ∧ Aside0 (kq ≤ kj4) ∧ Aside0 (Below w.heap.size w w'))
     case atStart => exact ⟨(x5_4), (0), Zr, Zr, H', ⟨Nat.le_refl _⟩, ⟨Zh HB⟩⟩
     case round =>
      clear H'
      try clear p2
      try clear q2
      try clear hx2
      try clear c3
      try clear c4
      try clear c4b0
      try clear c6
      try clear p6
      try clear c8
      try clear c8b0
      try clear c9
      try clear c9b0
      try clear hx274_0
      try clear p2
      try clear p274
      try clear p6
      try clear q2
      try clear q274
      obtain ⟨x5_3, x6_3, rfl, rfl, HA, HK3, HB⟩ := hrel
      cases gk with
      | zero => exact absurd HA.out (by simp [oakumref23_Signs.l0])
      | succ k3 =>
       have H := HA.out
       clear HA
       simp only [oakumref23_Signs.l0] at H
       by_cases c13 : x6_3 < 9
       ·rw [if_pos c13] at H
        have c13b0 : decide (x6_3 < 9) = true := decide_eq_true c13
        clear c13
        obtain ⟨t275, A140, H⟩ := Zk H
        have A14 := Aside0.mk A140
        clear A140
        have HC15 := Aside0.mk H; clear H
        go_upto_if 27 with (first | ((with_reducible refine gate_callee (f := 77) rfl ?_); refine goesL_ (some 27) rfl rfl Tryz.func77 (by kernel_rfl) rfl #[.int .i64 a1, .int .i64 (wrap64 (8 - x6_3))] rfl (by (try simp only [List.map_toArray, List.map_cons, List.map_nil]); first | done | rfl | (simp only [List.length_drop, List.length_take]; rfl) | (refine Eq.trans (b := #[.int .i64 a1, .int .i64 (8 - x6_3)]) rfl ?_; rw [w64 (8 - x6_3) (by omega) (by omega)])) ?_; (with_reducible refine (oakumref23_bit.calls k3 a1 (wrap64 (8 - x6_3)) t275 _ A14.out).mono ?_); rintro e w' ⟨rfl, ⟨nd, rfl⟩⟩; refine ⟨_, rfl, ?_⟩))
        (try simp only [Act.put, List.setIfInBounds_toArray, List.set_cons_zero, List.set_cons_succ])
        go_cut [7] (fun v7 wc => ∃ (kq : Nat) (x7_14 : ByteArray), v7 = .string x7_14 ∧ Aside0 (oakumref23_Signs.j3 kq a1 x5_3 x6_3 x7_14 = some r) ∧ Aside0 (kq ≤ k3) ∧ Aside0 (Below w.heap.size w wc))
        case first =>
         have H := HC15.out
         clear HC15
         by_cases c16 : t275 = true
         ·subst c16
          rw [if_pos rfl] at H
          obtain ⟨y276, hy276⟩ : ∃ y_ : List ByteArray, y_ = (([(⟨#[114]⟩ : ByteArray), (⟨#[119]⟩ : ByteArray), (⟨#[120]⟩ : ByteArray)] : List ByteArray)) := ⟨_, rfl⟩
          replace H : (if 0 ≤ (Int.tmod x6_3 3) then (if (Int.tmod x6_3 3) < (y276.length : Int) then (oakumref23_Signs.j3 k3 a1 x5_3 x6_3 (rdOf ByteArray.empty y276 (Int.tmod x6_3 3))) else (none)) else (none)) = some r := by first | (rw [hy276]; with_reducible exact H) | (have H2_ := (Option.bind_some _ _).symm.trans H; rw [hy276]; with_reducible exact H2_) | (have H2_ := (Option.bind_some _ _).symm.trans H; with_reducible exact H2_) | with_reducible exact H | (rw [hy276]; exact H) | exact H
          have Ny276 := Aside0.mk hy276
          clear hy276
          obtain ⟨ji17, hji17⟩ : ∃ j_ : Int, (Int.tmod x6_3 3) = j_ := ⟨_, rfl⟩
          replace H : (if 0 ≤ (ji17) then (if (ji17) < (y276.length : Int) then (oakumref23_Signs.j3 k3 a1 x5_3 x6_3 (rdOf ByteArray.empty y276 (ji17))) else (none)) else (none)) = some r := by first | (rw [hji17] at H; exact H) | (simp only [hji17] at H ⊢; exact H)
          by_cases c18 : 0 ≤ (ji17)
          ·rw [if_pos c18] at H
           have c18b0 : decide (0 ≤ (ji17)) = true := decide_eq_true c18
           clear c18
           (first | rw [c18b0] | (simp only [i64_w, i32_w]; rw [c18b0]) | skip)
           by_cases c19 : (ji17) < (y276.length : Int)
           ·rw [if_pos c19] at H
            have c19b0 : decide ((ji17) < (y276.length : Int)) = true := decide_eq_true c19
            clear c19
            have H' := Aside0.mk H
            clear H
            go_wp2_with (first | ((with_reducible refine gate_dst (N := 28) rfl ?_); refine Kd.R_lit Kd.string _ 9 ?hg (N := 28) ?hd (xs := ([(⟨#[114]⟩ : ByteArray), (⟨#[119]⟩ : ByteArray), (⟨#[120]⟩ : ByteArray)] : List ByteArray)) (inner := [.string (⟨#[114]⟩ : ByteArray), .string (⟨#[119]⟩ : ByteArray), .string (⟨#[120]⟩ : ByteArray)]) (ok := fun _ => True) (okp := fun _ => True) ?hr ?hp (fun _ hk => hk) trivial (Below.refl _ _) (Nat.le_refl _) (by simp) ?_; (case hd => rfl); (case hg => rfl); (case hr => first | (go_simp; done) | (go_simp; rfl)); (case hp => exact (Reps.one (show Kd.M Kd.string _ _ _ (⟨#[114]⟩ : ByteArray) [.string (⟨#[114]⟩ : ByteArray)] from rfl) (Reps.one (show Kd.M Kd.string _ _ _ (⟨#[119]⟩ : ByteArray) [.string (⟨#[119]⟩ : ByteArray)] from rfl) (Reps.one (show Kd.M Kd.string _ _ _ (⟨#[120]⟩ : ByteArray) [.string (⟨#[120]⟩ : ByteArray)] from rfl) (Reps.none _ _))))); intro v277 w20 ho21 hb hg_ hnew_; clear hg_ hnew_; (first | rw [← Ny276.out] at ho21 | (simp only [Int.reduceToNat] at ho21; rw [← Ny276.out] at ho21)); have HO278 := Aside0.mk (Kd.R_lower ho21 (below_size (Zh HB))); replace HB := Zs HB hb; clear hb ho21; obtain ⟨Ao22, co22, eo22⟩ := Kd.R_slice HO278.out; subst eo22; have p279 : 0 ≤ ((ji17) : Int) := of_decide_eq_true Zy; have q279 : (ji17) < (y276.length : Int) := of_decide_eq_true Zy; obtain ⟨ad279, e279, hx279_0⟩ := Kd.at_string (Kd.R_reads' HO278.out).2.2 (ji17) p279 q279; cases e279; replace p279 := eq_true p279; replace q279 := eq_true q279))
            go_meet
            case rel => exact ⟨_, (rdOf ByteArray.empty y276 (ji17)), (by first | rfl | (simp; done) | (simp only [← hji17] <;> (first | rfl | simp)) | (simp [*]; done) | (simp [nil_bne]; done) | (simp [*, nil_bne]; done)), H', ⟨by have := HJ2.out; have := HJ4.out; have := HK3.out; first | omega | exact Nat.le_refl _⟩, ⟨Zh HB⟩⟩
           ·rw [if_neg c19] at H
            exact absurd H (by simp)
          ·rw [if_neg c18] at H
           exact absurd H (by simp)
         ·replace c16 := Bool.eq_false_iff.mpr c16
          subst c16
          rw [Zf] at H
          have H' := Aside0.mk H
          clear H
          go_wp2
          go_meet
          case rel => exact ⟨_, ((⟨#[45]⟩ : ByteArray)), Zr, H', ⟨by have := HJ2.out; have := HJ4.out; have := HK3.out; first | omega | exact Nat.le_refl _⟩, ⟨Zh HB⟩⟩
        case rest =>
         clear HC15
         try clear c1
         try clear p2
         try clear q2
         try clear hx2
         try clear c3
         try clear c4
         try clear c4b0
         try clear c6
         try clear p6
         try clear c7
         try clear c8
         try clear c8b0
         try clear c9
         try clear c9b0
         try clear c13
         try clear c13b0
         try clear c16
         try clear c18
         try clear c18b0
         try clear c19
         try clear c19b0
         try clear hx274_0
         try clear hx279_0
         try clear p2
         try clear p274
         try clear p279
         try clear p6
         try clear q2
         try clear q274
         try clear q279
         obtain ⟨kq, x7_14, rfl, HA, HJ14, HB⟩ := hcut
         cases kq with
         | zero => exact absurd HA.out (by simp [oakumref23_Signs.j3])
         | succ kj14 =>
          have H := HA.out
          clear HA
          simp only [oakumref23_Signs.j3] at H
          have HC23 := Aside0.mk H; clear H
          go_upto_region 10 with (fail)
          go_cut [42] (fun v42 wc => ∃ (kq : Nat) (x42_22 : Bool), v42 = .bool x42_22 ∧ Aside0 (oakumref23_Signs.j4 kq a1 x5_3 x6_3 x7_14 x42_22 = some r) ∧ Aside0 (kq ≤ kj14) ∧ Aside0 (Below w.heap.size w wc))
          case first =>
           have H := HC23.out
           clear HC23
           by_cases c24 : (Int.tmod x6_3 3) = 2
           ·rw [if_pos c24] at H
            have c24b0 : ((Int.tmod x6_3 3) == 2) = true := beq_iff_eq.mpr c24
            have c24b1 : ((Int.tmod x6_3 3) != 2) = false := bne_eq_false_iff_eq.mpr c24
            clear c24
            (first | rw [c24b0] | (simp only [i64_w, i32_w]; rw [c24b0]) | skip)
            obtain ⟨t280, A250, H⟩ := Zk H
            have A25 := Aside0.mk A250
            clear A250
            have H' := Aside0.mk H
            clear H
            go_wp2_with (first | (go_at_call 77; (with_reducible refine (oakumref23_bit.calls kj14 a1 (wrap64 (11 - (wrap64 (Int.tdiv x6_3 3)))) t280 _ A25.out).mono ?_); rintro e w' ⟨rfl, ⟨nd, rfl⟩⟩))
            go_meet
            case rel => exact ⟨_, (t280), Zr, H', ⟨by have := HJ2.out; have := HJ4.out; have := HK3.out; have := HJ14.out; first | omega | exact Nat.le_refl _⟩, ⟨Zh HB⟩⟩
           ·rw [if_neg c24] at H
            have c24b0 : ((Int.tmod x6_3 3) == 2) = false := beq_eq_false_iff_ne.mpr c24
            have c24b1 : ((Int.tmod x6_3 3) != 2) = true := bne_iff_ne.mpr c24
            (first | rw [c24b0] | (simp only [i64_w, i32_w]; rw [c24b0]) | skip)
            have H' := Aside0.mk H
            clear H
            go_wp2
            go_meet
            case rel => exact ⟨_, (false), Zr, H', ⟨by have := HJ2.out; have := HJ4.out; have := HK3.out; have := HJ14.out; first | omega | exact Nat.le_refl _⟩, ⟨Zh HB⟩⟩
          case rest =>
           clear HC23
           try clear c1
           try clear c2
           try clear p2
           try clear q2
           try clear hx2
           try clear c3
           try clear c4
           try clear c4b0
           try clear c6
           try clear p6
           try clear c7
           try clear c8
           try clear c8b0
           try clear c9
           try clear c9b0
           try clear c13
           try clear c13b0
           try clear c16
           try clear c18
           try clear c18b0
           try clear c19
           try clear c19b0
           try clear c24
           try clear c24b0
           try clear c24b1
           try clear hx274_0
           try clear hx279_0
           try clear p2
           try clear p274
           try clear p279
           try clear p6
           try clear q2
           try clear q274
           try clear q279
           obtain ⟨kq, x42_22, rfl, HA, HJ22, HB⟩ := hcut
           cases kq with
           | zero => exact absurd HA.out (by simp [oakumref23_Signs.j4])
           | succ kj22 =>
            have H := HA.out
            clear HA
            simp only [oakumref23_Signs.j4] at H
            by_cases c26 : x42_22 = true
            ·subst c26
             rw [if_pos rfl] at H
             obtain ⟨y281, hy281⟩ : ∃ y_ : List ByteArray, y_ = (([(⟨#[115]⟩ : ByteArray), (⟨#[115]⟩ : ByteArray), (⟨#[116]⟩ : ByteArray), (⟨#[83]⟩ : ByteArray), (⟨#[83]⟩ : ByteArray), (⟨#[84]⟩ : ByteArray)] : List ByteArray)) := ⟨_, rfl⟩
             replace H : (if x7_14.toList = ([120] : List UInt8) then (if 0 ≤ (wrap64 (Int.tdiv x6_3 3)) then (if (wrap64 (Int.tdiv x6_3 3)) < (y281.length : Int) then (if x5_3.size + (rdOf ByteArray.empty y281 (wrap64 (Int.tdiv x6_3 3))).size ≤ 9223372036854775807 then (oakumref23_Signs.l0 kj22 a1 (x5_3 ++ (rdOf ByteArray.empty y281 (wrap64 (Int.tdiv x6_3 3)))) (wrap64 (x6_3 + 1))) else (none)) else (none)) else (none)) else (if 0 ≤ (wrap64 (3 + (wrap64 (Int.tdiv x6_3 3)))) then (if (wrap64 (3 + (wrap64 (Int.tdiv x6_3 3)))) < (y281.length : Int) then (if x5_3.size + (rdOf ByteArray.empty y281 (wrap64 (3 + (wrap64 (Int.tdiv x6_3 3))))).size ≤ 9223372036854775807 then (oakumref23_Signs.l0 kj22 a1 (x5_3 ++ (rdOf ByteArray.empty y281 (wrap64 (3 + (wrap64 (Int.tdiv x6_3 3)))))) (wrap64 (x6_3 + 1))) else (none)) else (none)) else (none))) = some r := by first | (rw [hy281]; with_reducible exact H) | (have H2_ := (Option.bind_some _ _).symm.trans H; rw [hy281]; with_reducible exact H2_) | (have H2_ := (Option.bind_some _ _).symm.trans H; with_reducible exact H2_) | with_reducible exact H | (rw [hy281]; exact H) | exact H
             have Ny281 := Aside0.mk hy281
             clear hy281
             by_cases c27 : x7_14.toList = ([120] : List UInt8)
             ·rw [if_pos c27] at H
              have c27b0 : (x7_14.toList == ([120] : List UInt8)) = true := beq_iff_eq.mpr c27
              have c27b1 : (x7_14.toList != ([120] : List UInt8)) = false := bne_eq_false_iff_eq.mpr c27
              clear c27
              obtain ⟨ji28, hji28⟩ : ∃ j_ : Int, (wrap64 (Int.tdiv x6_3 3)) = j_ := ⟨_, rfl⟩
              replace H : (if 0 ≤ (ji28) then (if (ji28) < (y281.length : Int) then (if x5_3.size + (rdOf ByteArray.empty y281 (ji28)).size ≤ 9223372036854775807 then (oakumref23_Signs.l0 kj22 a1 (x5_3 ++ (rdOf ByteArray.empty y281 (ji28))) (wrap64 (x6_3 + 1))) else (none)) else (none)) else (none)) = some r := by first | (rw [hji28] at H; exact H) | (simp only [hji28] at H ⊢; exact H)
              have hji28w : (IntKind.i64.wrap (Int.tdiv x6_3 3)) = ji28 := (i64_w _).trans hji28
              by_cases c29 : 0 ≤ (ji28)
              ·rw [if_pos c29] at H
               have c29b0 : decide (0 ≤ (ji28)) = true := decide_eq_true c29
               clear c29
               by_cases c30 : (ji28) < (y281.length : Int)
               ·rw [if_pos c30] at H
                have c30b0 : decide ((ji28) < (y281.length : Int)) = true := decide_eq_true c30
                clear c30
                by_cases c31 : x5_3.size + (rdOf ByteArray.empty y281 (ji28)).size ≤ 9223372036854775807
                ·rw [if_pos c31] at H
                 have c31b0 := eq_true c31
                 have c31b1 : decide (x5_3.size + (rdOf ByteArray.empty y281 (ji28)).size ≤ 9223372036854775807) = true := decide_eq_true c31
                 try have c31b2 : (9223372036854775807 < x5_3.size + (rdOf ByteArray.empty y281 (ji28)).size) = False := eq_false (Nat.not_lt.2 c31)
                 have H' := Aside0.mk H
                 clear H
                 go_wp2_with (first | ((with_reducible refine gate_dst (N := 43) rfl ?_); refine Kd.R_lit Kd.string _ 9 ?hg (N := 43) ?hd (xs := ([(⟨#[115]⟩ : ByteArray), (⟨#[115]⟩ : ByteArray), (⟨#[116]⟩ : ByteArray), (⟨#[83]⟩ : ByteArray), (⟨#[83]⟩ : ByteArray), (⟨#[84]⟩ : ByteArray)] : List ByteArray)) (inner := [.string (⟨#[115]⟩ : ByteArray), .string (⟨#[115]⟩ : ByteArray), .string (⟨#[116]⟩ : ByteArray), .string (⟨#[83]⟩ : ByteArray), .string (⟨#[83]⟩ : ByteArray), .string (⟨#[84]⟩ : ByteArray)]) (ok := fun _ => True) (okp := fun _ => True) ?hr ?hp (fun _ hk => hk) trivial (Below.refl _ _) (Nat.le_refl _) (by simp) ?_; (case hd => rfl); (case hg => rfl); (case hr => first | (go_simp; done) | (go_simp; rfl)); (case hp => exact (Reps.one (show Kd.M Kd.string _ _ _ (⟨#[115]⟩ : ByteArray) [.string (⟨#[115]⟩ : ByteArray)] from rfl) (Reps.one (show Kd.M Kd.string _ _ _ (⟨#[115]⟩ : ByteArray) [.string (⟨#[115]⟩ : ByteArray)] from rfl) (Reps.one (show Kd.M Kd.string _ _ _ (⟨#[116]⟩ : ByteArray) [.string (⟨#[116]⟩ : ByteArray)] from rfl) (Reps.one (show Kd.M Kd.string _ _ _ (⟨#[83]⟩ : ByteArray) [.string (⟨#[83]⟩ : ByteArray)] from rfl) (Reps.one (show Kd.M Kd.string _ _ _ (⟨#[83]⟩ : ByteArray) [.string (⟨#[83]⟩ : ByteArray)] from rfl) (Reps.one (show Kd.M Kd.string _ _ _ (⟨#[84]⟩ : ByteArray) [.string (⟨#[84]⟩ : ByteArray)] from rfl) (Reps.none _ _)))))))); intro v282 w32 ho33 hb hg_ hnew_; clear hg_ hnew_; (first | rw [← Ny281.out] at ho33 | (simp only [Int.reduceToNat] at ho33; rw [← Ny281.out] at ho33)); have HO283 := Aside0.mk (Kd.R_lower ho33 (below_size (Zh HB))); replace HB := Zs HB hb; clear hb ho33; obtain ⟨Ao34, co34, eo34⟩ := Kd.R_slice HO283.out; subst eo34; have p284 : 0 ≤ ((ji28) : Int) := of_decide_eq_true Zy; have q284 : (ji28) < (y281.length : Int) := of_decide_eq_true Zy; obtain ⟨ad284, e284, hx284_0⟩ := Kd.at_string (Kd.R_reads' HO283.out).2.2 (ji28) p284 q284; cases e284; replace p284 := eq_true p284; replace q284 := eq_true q284))
                 go_roundg kj22
                 case measure => have := HJ2.out; have := HJ4.out; have := HK3.out; have := HJ14.out; have := HJ22.out; omega
                 case rel => exact ⟨(x5_3 ++ (rdOf ByteArray.empty y281 (ji28))), (wrap64 (x6_3 + 1)), (by first | rfl | (simp; done) | (simp only [← hji28] <;> (first | rfl | simp)) | (simp [*]; done) | (simp [nil_bne]; done) | (simp [*, nil_bne]; done)), Zr, H', ⟨by have := HJ2.out; have := HJ4.out; have := HK3.out; have := HJ14.out; have := HJ22.out; omega⟩, ⟨Zh HB⟩⟩
                ·rw [if_neg c31] at H
                 exact absurd H (by simp)
               ·rw [if_neg c30] at H
                exact absurd H (by simp)
              ·rw [if_neg c29] at H
               exact absurd H (by simp)
             ·rw [if_neg c27] at H
              have c27b0 : (x7_14.toList == ([120] : List UInt8)) = false := beq_eq_false_iff_ne.mpr c27
              have c27b1 : (x7_14.toList != ([120] : List UInt8)) = true := bne_iff_ne.mpr c27
              obtain ⟨ji35, hji35⟩ : ∃ j_ : Int, (wrap64 (3 + (wrap64 (Int.tdiv x6_3 3)))) = j_ := ⟨_, rfl⟩
              replace H : (if 0 ≤ (ji35) then (if (ji35) < (y281.length : Int) then (if x5_3.size + (rdOf ByteArray.empty y281 (ji35)).size ≤ 9223372036854775807 then (oakumref23_Signs.l0 kj22 a1 (x5_3 ++ (rdOf ByteArray.empty y281 (ji35))) (wrap64 (x6_3 + 1))) else (none)) else (none)) else (none)) = some r := by first | (rw [hji35] at H; exact H) | (simp only [hji35] at H ⊢; exact H)
              have hji35w : (IntKind.i64.wrap (3 + (wrap64 (Int.tdiv x6_3 3)))) = ji35 := (i64_w _).trans hji35
              by_cases c36 : 0 ≤ (ji35)
              ·rw [if_pos c36] at H
               have c36b0 : decide (0 ≤ (ji35)) = true := decide_eq_true c36
               clear c36
               by_cases c37 : (ji35) < (y281.length : Int)
               ·rw [if_pos c37] at H
                have c37b0 : decide ((ji35) < (y281.length : Int)) = true := decide_eq_true c37
                clear c37
                by_cases c38 : x5_3.size + (rdOf ByteArray.empty y281 (ji35)).size ≤ 9223372036854775807
                ·rw [if_pos c38] at H
                 have c38b0 := eq_true c38
                 have c38b1 : decide (x5_3.size + (rdOf ByteArray.empty y281 (ji35)).size ≤ 9223372036854775807) = true := decide_eq_true c38
                 try have c38b2 : (9223372036854775807 < x5_3.size + (rdOf ByteArray.empty y281 (ji35)).size) = False := eq_false (Nat.not_lt.2 c38)
                 have H' := Aside0.mk H
                 clear H
                 go_wp2_with (first | ((with_reducible refine gate_dst (N := 43) rfl ?_); refine Kd.R_lit Kd.string _ 9 ?hg (N := 43) ?hd (xs := ([(⟨#[115]⟩ : ByteArray), (⟨#[115]⟩ : ByteArray), (⟨#[116]⟩ : ByteArray), (⟨#[83]⟩ : ByteArray), (⟨#[83]⟩ : ByteArray), (⟨#[84]⟩ : ByteArray)] : List ByteArray)) (inner := [.string (⟨#[115]⟩ : ByteArray), .string (⟨#[115]⟩ : ByteArray), .string (⟨#[116]⟩ : ByteArray), .string (⟨#[83]⟩ : ByteArray), .string (⟨#[83]⟩ : ByteArray), .string (⟨#[84]⟩ : ByteArray)]) (ok := fun _ => True) (okp := fun _ => True) ?hr ?hp (fun _ hk => hk) trivial (Below.refl _ _) (Nat.le_refl _) (by simp) ?_; (case hd => rfl); (case hg => rfl); (case hr => first | (go_simp; done) | (go_simp; rfl)); (case hp => exact (Reps.one (show Kd.M Kd.string _ _ _ (⟨#[115]⟩ : ByteArray) [.string (⟨#[115]⟩ : ByteArray)] from rfl) (Reps.one (show Kd.M Kd.string _ _ _ (⟨#[115]⟩ : ByteArray) [.string (⟨#[115]⟩ : ByteArray)] from rfl) (Reps.one (show Kd.M Kd.string _ _ _ (⟨#[116]⟩ : ByteArray) [.string (⟨#[116]⟩ : ByteArray)] from rfl) (Reps.one (show Kd.M Kd.string _ _ _ (⟨#[83]⟩ : ByteArray) [.string (⟨#[83]⟩ : ByteArray)] from rfl) (Reps.one (show Kd.M Kd.string _ _ _ (⟨#[83]⟩ : ByteArray) [.string (⟨#[83]⟩ : ByteArray)] from rfl) (Reps.one (show Kd.M Kd.string _ _ _ (⟨#[84]⟩ : ByteArray) [.string (⟨#[84]⟩ : ByteArray)] from rfl) (Reps.none _ _)))))))); intro v282 w39 ho40 hb hg_ hnew_; clear hg_ hnew_; (first | rw [← Ny281.out] at ho40 | (simp only [Int.reduceToNat] at ho40; rw [← Ny281.out] at ho40)); have HO283 := Aside0.mk (Kd.R_lower ho40 (below_size (Zh HB))); replace HB := Zs HB hb; clear hb ho40; obtain ⟨Ao41, co41, eo41⟩ := Kd.R_slice HO283.out; subst eo41; have p285 : 0 ≤ ((ji35) : Int) := of_decide_eq_true Zy; have q285 : (ji35) < (y281.length : Int) := of_decide_eq_true Zy; obtain ⟨ad285, e285, hx285_0⟩ := Kd.at_string (Kd.R_reads' HO283.out).2.2 (ji35) p285 q285; cases e285; replace p285 := eq_true p285; replace q285 := eq_true q285))
                 go_roundg kj22
                 case measure => have := HJ2.out; have := HJ4.out; have := HK3.out; have := HJ14.out; have := HJ22.out; omega
                 case rel => exact ⟨(x5_3 ++ (rdOf ByteArray.empty y281 (ji35))), (wrap64 (x6_3 + 1)), (by first | rfl | (simp; done) | (simp only [← hji35] <;> (first | rfl | simp)) | (simp [*]; done) | (simp [nil_bne]; done) | (simp [*, nil_bne]; done)), Zr, H', ⟨by have := HJ2.out; have := HJ4.out; have := HK3.out; have := HJ14.out; have := HJ22.out; omega⟩, ⟨Zh HB⟩⟩
                ·rw [if_neg c38] at H
                 exact absurd H (by simp)
               ·rw [if_neg c37] at H
                exact absurd H (by simp)
              ·rw [if_neg c36] at H
               exact absurd H (by simp)
            ·replace c26 := Bool.eq_false_iff.mpr c26
             subst c26
             rw [Zf] at H
             by_cases c42 : x5_3.size + x7_14.size ≤ 9223372036854775807
             ·rw [if_pos c42] at H
              have c42b0 := eq_true c42
              have c42b1 : decide (x5_3.size + x7_14.size ≤ 9223372036854775807) = true := decide_eq_true c42
              try have c42b2 : (9223372036854775807 < x5_3.size + x7_14.size) = False := eq_false (Nat.not_lt.2 c42)
              have H' := Aside0.mk H
              clear H
              go_wp2
              go_roundg kj22
              case measure => have := HJ2.out; have := HJ4.out; have := HK3.out; have := HJ14.out; have := HJ22.out; omega
              case rel => exact ⟨(x5_3 ++ x7_14), (wrap64 (x6_3 + 1)), Zr, Zr, H', ⟨by have := HJ2.out; have := HJ4.out; have := HK3.out; have := HJ14.out; have := HJ22.out; omega⟩, ⟨Zh HB⟩⟩
             ·rw [if_neg c42] at H
              exact absurd H (by simp)
       ·rw [if_neg c13] at H
        have c13b0 : decide (x6_3 < 9) = false := decide_eq_false c13
        clear c13
        obtain rfl := Option.some.inj H
        go_wp2
        go_ret
        exact ⟨Ze, Zh HB⟩
end Go.Proofs.YtejdmofljifkbaaGreatDoor.P
