/- For every two plans and list of items, of bulk at most 1048576: two plans that only take, one behind the other, leave just what both take. Condition: the bulk; the listed package variables are tied to the program's text by the given tie. -/
import Derived.Test.YtejdmofljifkbaaGreatDoorAt5
import Derived.Deep.SlicePairs
import Derived.ChangeSlices
import Derived.OpenShut
import Derived.ProofKit
import Derived.Stop.LaidErr
import Derived.Shelf.Vars
import Derived.LaidLaws
import Derived.Test.YtejdmofljifkbaaGreatDoorCards
import Derived.Test.YtejdmofljifkbaaGreatDoorTie
import Derived.ShutString
import Derived.Carry
import Derived.Lay
import Derived.Deep.DeepHandedRow
import Derived.Deep.DeepWitnessRowRef
set_option linter.unusedVariables false
set_option linter.unusedSimpArgs false
namespace Go.Proofs.YtejdmofljifkbaaGreatDoor.P
open Go.RowKit Go.Proofs.YtejdmofljifkbaaGreatDoorW.PrintWords Go.Proofs.YtejdmofljifkbaaGreatDoorW.PrintLast Go.Proofs.YtejdmofljifkbaaGreatDoorW.PrintMore
abbrev Pr := S65
def kx (x : Pr) : List UInt8 := x.f0.data.toList
def vx (x : Pr) : List UInt8 := x.f1.data.toList
theorem less_cons (a b : UInt8) (x y : List UInt8) : Op.bytesLess (a :: x) (b :: y) = (decide (a < b) || (a == b && Op.bytesLess x y)) := rfl
theorem less_irr : ∀ a : List UInt8, Op.bytesLess a a = false
 | [] => rfl
 | a :: x => by rw [less_cons, less_irr x]; simp [UInt8.lt_irrefl]
theorem less_tr : ∀ {a b c : List UInt8}, Op.bytesLess a b = true → Op.bytesLess b c = true → Op.bytesLess a c = true
 | [], [], _, h, _ => by cases h
 | _ :: _, [], _, h, _ => by cases h
 | _, _ :: _, [], _, h => by cases h
 | [], _ :: _, _ :: _, _, _ => rfl
 | a :: x, b :: y, c :: z, h1, h2 => by
  rw [less_cons] at h1 h2 ⊢
  simp only [Bool.or_eq_true, decide_eq_true_eq, Bool.and_eq_true, beq_iff_eq] at h1 h2 ⊢
  rcases h1 with h1 | ⟨rfl, h1⟩
  ·rcases h2 with h2 | ⟨rfl, h2⟩
   ·exact .inl (UInt8.lt_trans h1 h2)
   ·exact .inl h1
  ·rcases h2 with h2 | ⟨rfl, h2⟩
   ·exact .inl h2
   ·exact .inr ⟨rfl, less_tr h1 h2⟩
theorem less_tot {a b : List UInt8} (h1 : Op.bytesLess a b = false) (h2 : Op.bytesLess b a = false) : a = b := by
 have := less_total a b
 rw [h1, h2] at this
 simpa using this
def Sorted (l : List Pr) : Prop := l.Pairwise (fun x y => Op.bytesLess (kx x) (kx y) = true) ∧ ∀ x ∈ l, vx x ≠ []
def sortF : Option (List UInt8) → List Pr → Bool
 | _, [] => true
 | p, x :: t => (match p with | none => true | some q => Op.bytesLess q (kx x)) && (!(vx x).isEmpty && sortF (some (kx x)) t)
theorem sortF_some : ∀ (l : List Pr) (q : List UInt8), sortF (some q) l = true ↔ (∀ x ∈ l, Op.bytesLess q (kx x) = true) ∧ Sorted l
 | [], q => by simp [sortF, Sorted]
 | x :: t, q => by
  have ih := sortF_some t (kx x)
  unfold sortF
  simp only [Bool.and_eq_true, ih]
  unfold Sorted
  simp only [List.pairwise_cons, List.mem_cons, forall_eq_or_imp]
  constructor
  ·rintro ⟨h1, h2, h3, h4, h5⟩
   refine ⟨⟨h1, fun y hy => less_tr h1 (h3 y hy)⟩, ⟨h3, h4⟩, ?_, h5⟩
   intro e
   rw [e] at h2
   cases h2
  ·rintro ⟨⟨h1, _⟩, ⟨h3, h4⟩, h5, h6⟩
   refine ⟨h1, ?_, h3, h4, h6⟩
   cases h : vx x with
   | nil => exact absurd h h5
   | cons _ _ => rfl
theorem sortF_none (l : List Pr) : sortF none l = true ↔ Sorted l := by
 cases l with
 | nil => simp [sortF, Sorted]
 | cons x t =>
  have ih := sortF_some t (kx x)
  unfold sortF
  simp only [Bool.and_eq_true, ih, true_and]
  unfold Sorted
  simp only [List.pairwise_cons, List.mem_cons, forall_eq_or_imp]
  constructor
  ·rintro ⟨h2, h3, h4, h5⟩
   refine ⟨⟨h3, h4⟩, ?_, h5⟩
   intro e
   rw [e] at h2
   cases h2
  ·rintro ⟨⟨h3, h4⟩, h5, h6⟩
   refine ⟨?_, h3, h4, h6⟩
   cases h : vx x with
   | nil => exact absurd h h5
   | cons _ _ => rfl
theorem rd_at (l : List Pr) (i : Nat) (hi : i < l.length) : rd_T65 l (i : Int) = l[i] := by
 unfold rd_T65
 rw [Int.toNat_natCast, List.getD_eq_getElem?_getD, List.getElem?_eq_getElem hi]
 rfl
def Small (l : List Pr) (F : Nat) : Prop := l.length ≤ 2097152 ∧ ∀ x ∈ l, x.f0.size ≤ 2097152 ∧ x.f1.size ≤ 2097152 ∧ x.f0.size + 2 * x.f1.size + 100 ≤ F
def pOK (x : Pr) : Bool := pairOK (kx x) (vx x)
def overOK (l : List Pr) : Bool := l.all pOK && sortF none l
theorem over_l0 (l : List Pr) (F : Nat) (hs : Small l F) : ∀ (m : List Pr) (i k : Nat), l.drop i = m → m.length + F < k →
  over_Right.l0 k l l (l.length : Int) (i : Int) = some (m.all pOK && sortF (if i = 0 then none else some (kx (l.getD (i - 1) z65))) m)
 | [], i, k, hd, hk => by
  obtain ⟨k, rfl⟩ : ∃ j, k = j + 1 := ⟨k - 1, by omega⟩
  have : l.length ≤ i := List.drop_eq_nil_iff.1 hd
  simp only [over_Right.l0]
  rw [if_neg (by omega)]
  rfl
 | x :: m, i, k, hd, hk => by
  obtain ⟨k, rfl⟩ : ∃ j, k = j + 1 := ⟨k - 1, by omega⟩
  have hi : i < l.length := by
   have := congrArg List.length hd
   simp at this
   omega
  have h2 := List.drop_eq_getElem_cons hi
  rw [hd] at h2
  injection h2 with hx ht
  have hr := rd_at l i hi
  rw [← hx] at hr
  have hmem : x ∈ l := hx ▸ List.getElem_mem hi
  obtain ⟨s1, s2, s3⟩ := hs.2 x hmem
  have hn := hs.1
  have ih := over_l0 l F hs m (i + 1) k ht.symm (by simp only [List.length_cons] at hk; omega)
  rw [if_neg (Nat.succ_ne_zero i), Nat.add_sub_cancel, show l.getD i z65 = x by rw [List.getD_eq_getElem?_getD, List.getElem?_eq_getElem hi, ← hx]; rfl] at ih
  simp only [over_Right.l0]
  rw [if_pos (by omega), if_pos (by omega), if_pos (by omega), hr]
  rw [show (i : Int) + 1 = ((i + 1 : Nat) : Int) by omega, w64n _ (by omega), ih]
  rw [pair_prog x.f0 x.f1 s1 s2 k (by omega), Option.bind_some]
  simp only [Lib.toList_data, List.all_cons]
  rw [show pOK x = pairOK x.f0.data.toList x.f1.data.toList from rfl]
  by_cases hv : x.f1.data.toList = []
  ·rw [if_pos hv]
   unfold sortF
   rw [show (vx x).isEmpty = true by unfold vx; rw [hv]; rfl]
   simp
  ·rw [if_neg hv]
   have hve : (vx x).isEmpty = false := by
    unfold vx
    cases h : x.f1.data.toList with
    | nil => exact absurd h hv
    | cons _ _ => rfl
   cases hp : pairOK x.f0.data.toList x.f1.data.toList with
   | false => simp
   | true =>
    simp only [if_true, Bool.true_and]
    rw [show sortF (if i = 0 then none else some (kx (l.getD (i - 1) z65))) (x :: m) = ((match (if i = 0 then none else some (kx (l.getD (i - 1) z65))) with | none => true | some q => Op.bytesLess q (kx x)) && (!(vx x).isEmpty && sortF (some (kx x)) m)) from rfl, hve]
    by_cases h0 : i = 0
    ·rw [if_neg (by omega), if_pos h0]
     simp
    ·have hi1 : i - 1 < l.length := by omega
     have hr1 := rd_at l (i - 1) hi1
     rw [if_pos (by omega), if_neg h0, show (i : Int) - 1 = ((i - 1 : Nat) : Int) by omega, w64n _ (by omega), if_pos (by omega), if_pos (by omega), hr1]
     rw [show l.getD (i - 1) z65 = l[i - 1] by rw [List.getD_eq_getElem?_getD, List.getElem?_eq_getElem hi1]; rfl]
     show (if Op.bytesLess (kx l[i - 1]) (kx x) = true then _ else _) = some (m.all pOK && (Op.bytesLess (kx l[i - 1]) (kx x) && (!false && sortF (some (kx x)) m)))
     generalize Op.bytesLess (kx l[i - 1]) (kx x) = b
     cases b
     ·rw [if_neg (by simp), Bool.false_and, Bool.and_false]
     ·rw [if_pos rfl, Bool.true_and, Bool.not_false, Bool.true_and]
theorem over_prog (l : List Pr) (F : Nat) (hs : Small l F) (k : Nat) (hk : l.length + F < k) : over_Right.f k l = some (overOK l) := by
 unfold over_Right.f overOK
 have := over_l0 l F hs l 0 k rfl hk
 rw [if_pos rfl] at this
 exact this
def gtB (first : Bool) (ahead : ByteArray) (x : Pr) : Bool := first || Op.bytesLess ahead.data.toList (kx x)
def scan (first : Bool) (ahead : ByteArray) : List Pr → Bool → ByteArray → Bool × ByteArray
 | [], fd, q => (fd, q)
 | x :: t, fd, q => if (gtB first ahead x && (!fd || Op.bytesLess (kx x) q.data.toList)) = true then scan first ahead t true x.f0 else scan first ahead t fd q
theorem scan_spec (first : Bool) (ahead : ByteArray) : ∀ (l : List Pr) (fd : Bool) (q : ByteArray),
  ((scan first ahead l fd q).1 = false → fd = false ∧ ∀ x ∈ l, gtB first ahead x = false) ∧
  ((scan first ahead l fd q).1 = true → ((fd = true ∧ (scan first ahead l fd q).2 = q) ∨ ∃ x ∈ l, gtB first ahead x = true ∧ (scan first ahead l fd q).2 = x.f0) ∧
   (∀ x ∈ l, gtB first ahead x = true → Op.bytesLess (kx x) (scan first ahead l fd q).2.data.toList = false) ∧ (fd = true → Op.bytesLess q.data.toList (scan first ahead l fd q).2.data.toList = false))
 | [], fd, q => by
  refine ⟨fun h => ⟨h, by simp⟩, fun h => ⟨.inl ⟨h, rfl⟩, by simp, fun _ => less_irr _⟩⟩
 | x :: t, fd, q => by
  unfold scan
  by_cases hc : (gtB first ahead x && (!fd || Op.bytesLess (kx x) q.data.toList)) = true
  ·rw [if_pos hc]
   obtain ⟨i1, i2⟩ := scan_spec first ahead t true x.f0
   simp only [Bool.and_eq_true, Bool.or_eq_true, Bool.not_eq_true'] at hc
   obtain ⟨g, hc⟩ := hc
   refine ⟨fun h => absurd (i1 h).1 (by simp), fun h => ?_⟩
   obtain ⟨j1, j2, j3⟩ := i2 h
   have hx := j3 rfl
   refine ⟨.inr ?_, ?_, ?_⟩
   ·rcases j1 with ⟨_, e⟩ | ⟨y, hy, e1, e2⟩
    ·exact ⟨x, List.mem_cons_self .., g, e⟩
    ·exact ⟨y, List.mem_cons_of_mem _ hy, e1, e2⟩
   ·intro y hy gy
    rcases List.mem_cons.1 hy with rfl | hy
    ·exact hx
    ·exact j2 y hy gy
   ·intro hfd
    rcases hc with hc | hc
    ·rw [hfd] at hc; cases hc
    ·cases hq : Op.bytesLess q.data.toList (scan first ahead t true x.f0).2.data.toList with
     | false => rfl
     | true =>
      have := less_tr hc hq
      rw [show kx x = x.f0.data.toList from rfl] at this
      rw [this] at hx
      cases hx
  ·rw [if_neg hc]
   obtain ⟨i1, i2⟩ := scan_spec first ahead t fd q
   rw [Bool.not_eq_true, Bool.and_eq_false_iff] at hc
   refine ⟨fun h => ⟨(i1 h).1, ?_⟩, fun h => ?_⟩
   ·intro y hy
    rcases List.mem_cons.1 hy with rfl | hy
    ·rcases hc with hc | hc
     ·exact hc
     ·rw [(i1 h).1] at hc; cases hc
    ·exact (i1 h).2 y hy
   ·obtain ⟨j1, j2, j3⟩ := i2 h
    refine ⟨?_, ?_, j3⟩
    ·rcases j1 with j1 | ⟨y, hy, e1, e2⟩
     ·exact .inl j1
     ·exact .inr ⟨y, List.mem_cons_of_mem _ hy, e1, e2⟩
    ·intro y hy gy
     rcases List.mem_cons.1 hy with rfl | hy
     ·rcases hc with hc | hc
      ·rw [hc] at gy; cases gy
      ·rw [Bool.or_eq_false_iff] at hc
       obtain ⟨c1, c2⟩ := hc
       have hfd : fd = true := by simpa using c1
       have hq := j3 hfd
       cases hlt : Op.bytesLess (kx y) (scan first ahead t fd q).2.data.toList with
       | false => rfl
       | true =>
        by_cases he : kx y = q.data.toList
        ·rw [← he, hlt] at hq; cases hq
        ·have : Op.bytesLess q.data.toList (kx y) = true := by
          cases h3 : Op.bytesLess q.data.toList (kx y) with
          | true => rfl
          | false => exact absurd (less_tot c2 h3) he
         rw [less_tr this hlt] at hq; cases hq
     ·exact j2 y hy gy
def layEnd (k : Nat) (l acc : List Pr) (ahead : ByteArray) (p : Bool × ByteArray) : Option (List Pr) :=
 if p.1 = true then ((oakumref08_Last.f k l p.2).bind fun bt271 => (if bt271.2 = true then (if acc.length < 4398046511104 then (oakumref08_Lay.l0 k l (acc ++ [(⟨p.2, bt271.1⟩ : Pr)]) p.2 false) else (none)) else (oakumref08_Lay.l0 k l acc p.2 false))) else (some acc)
theorem lay_l1 (l acc : List Pr) (hl : l.length ≤ 2097152) (ahead : ByteArray) (first : Bool) : ∀ (m : List Pr) (i k : Nat) (fd : Bool) (q : ByteArray), l.drop i = m →
  oakumref08_Lay.l1 (k + m.length + 1) l acc ahead first q fd (i : Int) = layEnd k l acc ahead (scan first ahead m fd q)
 | [], i, k, fd, q, hd => by
  have : l.length ≤ i := List.drop_eq_nil_iff.1 hd
  show oakumref08_Lay.l1 (k + 1) l acc ahead first q fd (i : Int) = _
  simp only [oakumref08_Lay.l1]
  rw [if_neg (by omega)]
  rfl
 | x :: m, i, k, fd, q, hd => by
  have hi : i < l.length := by
   have := congrArg List.length hd
   simp at this
   omega
  have h2 := List.drop_eq_getElem_cons hi
  rw [hd] at h2
  injection h2 with hx ht
  have hr := rd_at l i hi
  rw [← hx] at hr
  have ih := fun fd q => lay_l1 l acc hl ahead first m (i + 1) k fd q ht.symm
  rw [show k + (x :: m).length + 1 = (k + m.length + 1) + 1 by rw [List.length_cons]; omega]
  generalize k + m.length + 1 = K at ih ⊢
  unfold scan gtB
  simp only [oakumref08_Lay.l1]
  rw [if_pos (by omega), if_pos (by omega), hr, show (i : Int) + 1 = ((i + 1 : Nat) : Int) by omega, w64n _ (by omega)]
  simp only [ih, Lib.toList_data]
  rw [show x.f0.data.toList = kx x from rfl]
  cases first with
  | true =>
   simp only [if_true, Bool.true_or, Bool.true_and]
   cases fd with
   | false => simp
   | true => simp only [if_true, Bool.not_true, Bool.false_or]; split <;> rfl
  | false =>
   simp only [Bool.false_eq_true, if_false, Bool.false_or]
   cases hg : Op.bytesLess ahead.data.toList (kx x) with
   | false => simp
   | true =>
    simp only [if_true, Bool.true_and]
    cases fd with
    | false => simp
    | true => simp only [if_true, Bool.not_true, Bool.false_or]; split <;> rfl
def lastF (q : List UInt8) : List Pr → ByteArray × Bool
 | [] => (⟨#[]⟩, false)
 | x :: t => if kx x = q then (x.f1, (vx x != [])) else lastF q t
theorem last_l0 (l : List Pr) (hl : l.length ≤ 2097152) (q : ByteArray) : ∀ (n k : Nat), n ≤ l.length → n < k → oakumref08_Last.l0 k l q ((n : Int) - 1) = some (lastF q.data.toList (l.take n).reverse)
 | 0, k, _, hk => by
  obtain ⟨k, rfl⟩ : ∃ j, k = j + 1 := ⟨k - 1, by omega⟩
  simp only [oakumref08_Last.l0]
  rw [if_neg (by omega)]
  rfl
 | n + 1, k, hn, hk => by
  obtain ⟨k, rfl⟩ : ∃ j, k = j + 1 := ⟨k - 1, by omega⟩
  have hr := rd_at l n (by omega)
  have ih := last_l0 l hl q n k (by omega) (by omega)
  simp only [oakumref08_Last.l0]
  rw [show ((n + 1 : Nat) : Int) - 1 = (n : Int) by omega, if_pos (by omega), if_pos (by omega), if_pos (by omega), hr, w64 ((n : Int) - 1) (by omega) (by omega), ih]
  have ht : (l.take (n + 1)).reverse = l[n] :: (l.take n).reverse := by
   rw [← List.take_append_getElem (by omega : n < l.length), List.reverse_append]
   rfl
  rw [ht]
  simp only [lastF, Lib.toList_data]
  rw [show l[n].f0.data.toList = kx l[n] from rfl]
  split <;> rfl
theorem last_f (l : List Pr) (hl : l.length ≤ 2097152) (q : ByteArray) (k : Nat) (hk : l.length < k) : oakumref08_Last.f k l q = some (lastF q.data.toList l.reverse) := by
 unfold oakumref08_Last.f
 rw [w64 _ (by omega) (by omega), last_l0 l hl q l.length k (Nat.le_refl _) hk, List.take_length]
theorem last_true (q : List UInt8) : ∀ l : List Pr, (lastF q l).2 = true → (lastF q l).1.data.toList ≠ []
 | [], h => by cases h
 | x :: t, h => by
  unfold lastF at h ⊢
  split
  ·rename_i e
   rw [if_pos e] at h
   simpa [vx] using h
  ·rename_i e
   rw [if_neg e] at h
   exact last_true q t h
theorem lay_round (l acc : List Pr) (hl : l.length ≤ 2097152) (ahead : ByteArray) (first : Bool) (K : Nat) :
  oakumref08_Lay.l0 (K + l.length + 1 + 1) l acc ahead first = layEnd K l acc ahead (scan first ahead l false ⟨#[]⟩) := by
 have h := lay_l1 l acc hl ahead first l 0 K false ⟨#[]⟩ rfl
 generalize K + l.length + 1 = K2 at h ⊢
 simp only [oakumref08_Lay.l0]
 exact h
theorem count_less {α : Type} (p r : α → Bool) : ∀ l : List α, (∀ x ∈ l, p x = true → r x = true) → (∃ x ∈ l, r x = true ∧ p x = false) → l.countP p < l.countP r
 | [], _, h => by obtain ⟨x, hx, _⟩ := h; cases hx
 | a :: t, h1, h2 => by
  have hle : t.countP p ≤ t.countP r := List.countP_mono_left fun x hx => h1 x (List.mem_cons_of_mem _ hx)
  rw [List.countP_cons, List.countP_cons]
  obtain ⟨x, hx, hr, hp⟩ := h2
  rcases List.mem_cons.1 hx with rfl | hx
  ·rw [hr, hp]
   simp
   omega
  ·have ih := count_less p r t (fun x hx => h1 x (List.mem_cons_of_mem _ hx)) ⟨x, hx, hr, hp⟩
   have := h1 a (List.mem_cons_self ..)
   cases hpa : p a with
   | false => simp; omega
   | true => rw [this hpa]; simp; omega
theorem less_asym {a b : List UInt8} (h : Op.bytesLess a b = true) : Op.bytesLess b a = false := by
 cases h2 : Op.bytesLess b a with
 | false => rfl
 | true =>
  have := less_tr h h2
  rw [less_irr] at this
  cases this
theorem less_le {a b c : List UInt8} (h1 : Op.bytesLess b a = false) (h2 : Op.bytesLess b c = true) : Op.bytesLess a c = true := by
 cases h3 : Op.bytesLess a b with
 | true => exact less_tr h3 h2
 | false => rw [less_tot h3 h1]; exact h2
theorem lay_ok (l : List Pr) (hl : l.length ≤ 2097152) : ∀ (m k : Nat) (acc : List Pr) (ahead : ByteArray) (first : Bool), l.countP (gtB first ahead) ≤ m → (m + 1) * (l.length + 3) + l.length + 5 ≤ k → acc.length + m ≤ 4194304 →
  Sorted acc → (∀ x ∈ acc, first = false ∧ Op.bytesLess ahead.data.toList (kx x) = false) → ∃ r, oakumref08_Lay.l0 k l acc ahead first = some r ∧ Sorted r := by
 intro m
 induction m with
 | zero =>
  intro k acc ahead first hc hk _ hs _
  obtain ⟨K, rfl⟩ : ∃ K, k = K + l.length + 1 + 1 := ⟨k - l.length - 2, by omega⟩
  rw [lay_round l acc hl]
  obtain ⟨_, s2⟩ := scan_spec first ahead l false ⟨#[]⟩
  unfold layEnd
  cases hb : (scan first ahead l false ⟨#[]⟩).1 with
  | false => exact ⟨acc, rfl, hs⟩
  | true =>
   obtain ⟨h1, _, _⟩ := s2 hb
   rcases h1 with ⟨h1, _⟩ | ⟨x, hx, hg, _⟩
   ·cases h1
   ·have := List.countP_pos_iff.2 ⟨x, hx, hg⟩
    omega
 | succ m ih =>
  intro k acc ahead first hc hk ha hs hi
  have hmul : (m + 1 + 1) * (l.length + 3) = (m + 1) * (l.length + 3) + (l.length + 3) := Nat.succ_mul _ _
  obtain ⟨K, rfl⟩ : ∃ K, k = K + l.length + 1 + 1 := ⟨k - l.length - 2, by omega⟩
  rw [lay_round l acc hl]
  obtain ⟨_, s2⟩ := scan_spec first ahead l false ⟨#[]⟩
  unfold layEnd
  cases hb : (scan first ahead l false ⟨#[]⟩).1 with
  | false => exact ⟨acc, rfl, hs⟩
  | true =>
   obtain ⟨h1, _, _⟩ := s2 hb
   rcases h1 with ⟨h1, _⟩ | ⟨x, hx, hg, hq⟩
   ·cases h1
   ·simp only [if_true]
    generalize (scan first ahead l false ⟨#[]⟩).2 = q at hq ⊢
    subst hq
    rw [last_f l hl x.f0 K (by omega), Option.bind_some]
    have hgq : first = true ∨ Op.bytesLess ahead.data.toList (kx x) = true := by
     unfold gtB at hg
     simpa using hg
    have hcnt : l.countP (gtB false x.f0) ≤ m := by
     have : l.countP (gtB false x.f0) < l.countP (gtB first ahead) := by
      refine count_less _ _ l ?_ ⟨x, hx, hg, ?_⟩
      ·intro y _ hy
       unfold gtB at hy ⊢
       simp only [Bool.false_or] at hy
       rcases hgq with h | h
       ·rw [h]; rfl
       ·rw [less_tr h hy]; simp
      ·unfold gtB
       rw [show x.f0.data.toList = kx x from rfl, less_irr]; rfl
     omega
    have hacc : ∀ y ∈ acc, Op.bytesLess (kx y) (kx x) = true := by
     intro y hy
     obtain ⟨hf, hn⟩ := hi y hy
     rcases hgq with h | h
     ·rw [hf] at h; cases h
     ·exact less_le hn h
    split
    ·rename_i hlt
     rw [if_pos (by omega)]
     refine ih K _ x.f0 false hcnt (by omega) (by rw [List.length_append]; simp; omega) ⟨?_, ?_⟩ ?_
     ·rw [List.pairwise_append]
      refine ⟨hs.1, List.pairwise_singleton _ _, ?_⟩
      intro y hy z hz
      rw [List.mem_singleton] at hz
      subst hz
      exact hacc y hy
     ·intro y hy
      rcases List.mem_append.1 hy with hy | hy
      ·exact hs.2 y hy
      ·rw [List.mem_singleton] at hy
       subst hy
       exact last_true _ _ hlt
     ·intro y hy
      refine ⟨rfl, ?_⟩
      rcases List.mem_append.1 hy with hy | hy
      ·exact less_asym (hacc y hy)
      ·rw [List.mem_singleton] at hy
       subst hy
       exact less_irr _
    ·exact ih K acc x.f0 false hcnt (by omega) (by omega) hs fun y hy => ⟨rfl, less_asym (hacc y hy)⟩
theorem keys_apart : ∀ {l : List Pr}, l.Pairwise (fun x y => Op.bytesLess (kx x) (kx y) = true) → ∀ x ∈ l, ∀ y ∈ l, kx x = kx y → x = y
 | [], _, x, hx, _, _, _ => by cases hx
 | a :: t, h, x, hx, y, hy, e => by
  rw [List.pairwise_cons] at h
  rcases List.mem_cons.1 hx with hx2 | hx2
  ·rcases List.mem_cons.1 hy with hy2 | hy2
   ·rw [hx2, hy2]
   ·have := h.1 y hy2
    rw [← hx2, e, less_irr] at this
    cases this
  ·rcases List.mem_cons.1 hy with hy2 | hy2
   ·have := h.1 x hx2
    rw [← hy2, e, less_irr] at this
    cases this
   ·exact keys_apart h.2 x hx2 y hy2 e
theorem last_at (x : Pr) : ∀ (r : List Pr), (∀ y ∈ r, kx y = kx x → y = x) → x ∈ r → lastF (kx x) r = (x.f1, (vx x != []))
 | [], _, h => by cases h
 | y :: t, h1, h2 => by
  unfold lastF
  by_cases e : kx y = kx x
  ·rw [if_pos e]
   have := h1 y (List.mem_cons_self ..) e
   rw [this]
  ·rw [if_neg e]
   rcases List.mem_cons.1 h2 with rfl | h2
   ·exact absurd rfl e
   ·exact last_at x t (fun z hz => h1 z (List.mem_cons_of_mem _ hz)) h2
theorem lay_sorted (l : List Pr) (hl : l.length ≤ 2097152) (hs : Sorted l) : ∀ (j i k : Nat) (ahead : ByteArray) (first : Bool), i + j = l.length → (j + 1) * (l.length + 3) + l.length + 5 ≤ k →
  ((i = 0 ∧ first = true) ∨ (∃ h : i - 1 < l.length, 0 < i ∧ first = false ∧ ahead = l[i - 1].f0)) → oakumref08_Lay.l0 k l (l.take i) ahead first = some l := by
 have hpw : ∀ a b (ha : a < l.length) (hb : b < l.length), a < b → Op.bytesLess (kx l[a]) (kx l[b]) = true := fun a b ha hb hab => List.pairwise_iff_getElem.1 hs.1 a b ha hb hab
 intro j
 induction j with
 | zero =>
  intro i k ahead first hi hk hst
  obtain ⟨K, rfl⟩ : ∃ K, k = K + l.length + 1 + 1 := ⟨k - l.length - 2, by omega⟩
  rw [lay_round l _ hl]
  obtain ⟨_, s2⟩ := scan_spec first ahead l false ⟨#[]⟩
  unfold layEnd
  cases hb : (scan first ahead l false ⟨#[]⟩).1 with
  | false =>
   rw [List.take_of_length_le (by omega)]
   rfl
  | true =>
   exfalso
   obtain ⟨h1, _, _⟩ := s2 hb
   rcases h1 with ⟨h1, _⟩ | ⟨x, hx, hg, _⟩
   ·cases h1
   ·obtain ⟨t, ht, rfl⟩ := List.mem_iff_getElem.1 hx
    rcases hst with ⟨h0, _⟩ | ⟨h, hpos, hf, rfl⟩
    ·omega
    ·unfold gtB at hg
     rw [hf, Bool.false_or, show l[i - 1].f0.data.toList = kx l[i - 1] from rfl] at hg
     by_cases he : t = i - 1
     ·subst he
      rw [less_irr] at hg; cases hg
     ·rw [less_asym (hpw t (i - 1) ht h (by omega))] at hg; cases hg
 | succ j ih =>
  intro i k ahead first hi hk hst
  have hmul : (j + 1 + 1) * (l.length + 3) = (j + 1) * (l.length + 3) + (l.length + 3) := Nat.succ_mul _ _
  obtain ⟨K, rfl⟩ : ∃ K, k = K + l.length + 1 + 1 := ⟨k - l.length - 2, by omega⟩
  have hil : i < l.length := by omega
  rw [lay_round l _ hl]
  obtain ⟨s1, s2⟩ := scan_spec first ahead l false ⟨#[]⟩
  have hgi : gtB first ahead l[i] = true := by
   unfold gtB
   rcases hst with ⟨_, hf⟩ | ⟨h, hpos, hf, rfl⟩
   ·rw [hf]; rfl
   ·rw [show l[i - 1].f0.data.toList = kx l[i - 1] from rfl, hpw (i - 1) i h hil (by omega)]; simp
  unfold layEnd
  cases hb : (scan first ahead l false ⟨#[]⟩).1 with
  | false =>
   have := (s1 hb).2 l[i] (List.getElem_mem hil)
   rw [hgi] at this
   cases this
  | true =>
   obtain ⟨h1, h2, _⟩ := s2 hb
   rcases h1 with ⟨h1, _⟩ | ⟨x, hx, hg, hq⟩
   ·cases h1
   ·have hmin := h2 l[i] (List.getElem_mem hil) hgi
    simp only [if_true]
    generalize (scan first ahead l false ⟨#[]⟩).2 = q at hq hmin ⊢
    subst hq
    obtain ⟨t, ht, rfl⟩ := List.mem_iff_getElem.1 hx
    have hti : t = i := by
     rcases Nat.lt_trichotomy t i with h | h | h
     ·exfalso
      rcases hst with ⟨h0, _⟩ | ⟨h', hpos, hf, rfl⟩
      ·omega
      ·unfold gtB at hg
       rw [hf, Bool.false_or, show l[i - 1].f0.data.toList = kx l[i - 1] from rfl] at hg
       by_cases he : t = i - 1
       ·subst he
        rw [less_irr] at hg; cases hg
       ·rw [less_asym (hpw t (i - 1) ht h' (by omega))] at hg; cases hg
     ·exact h
     ·exfalso
      rw [show l[t].f0.data.toList = kx l[t] from rfl, hpw i t hil ht h] at hmin
      cases hmin
    subst hti
    rw [last_f l hl _ K (by omega), Option.bind_some, show l[t].f0.data.toList = kx l[t] from rfl]
    rw [last_at l[t] l.reverse (fun y hy e => keys_apart hs.1 y (List.mem_reverse.1 hy) l[t] (List.getElem_mem ht) e) (List.mem_reverse.2 (List.getElem_mem ht))]
    have hv := hs.2 l[t] (List.getElem_mem ht)
    rw [if_pos (by simpa using hv), if_pos (by rw [List.length_take]; omega)]
    have htk : l.take t ++ [(⟨l[t].f0, l[t].f1⟩ : Pr)] = l.take (t + 1) := List.take_append_getElem ht
    rw [htk]
    exact ih (t + 1) K _ false (by omega) (by omega) (.inr ⟨by omega, by omega, rfl, rfl⟩)
def dd (x : Pr) : List UInt8 × List UInt8 := (kx x, vx x)
theorem same_l0 (r l : List Pr) (hl : l.length ≤ 2097152) (he : r.length = l.length) : ∀ (m : Nat) (i k : Nat), i + m = l.length → m < k →
  oakumref07_Same.l0 k r l (i : Int) = some (decide ((r.drop i).map dd = (l.drop i).map dd))
 | 0, i, k, hi, hk => by
  obtain ⟨k, rfl⟩ : ∃ j, k = j + 1 := ⟨k - 1, by omega⟩
  simp only [oakumref07_Same.l0]
  rw [if_neg (by omega), List.drop_eq_nil_of_le (by omega), List.drop_eq_nil_of_le (by omega)]
  rfl
 | m + 1, i, k, hi, hk => by
  obtain ⟨k, rfl⟩ : ∃ j, k = j + 1 := ⟨k - 1, by omega⟩
  have h1 : i < r.length := by omega
  have h2 : i < l.length := by omega
  have ih := same_l0 r l hl he m (i + 1) k (by omega) (by omega)
  simp only [oakumref07_Same.l0]
  rw [if_pos (by omega), if_pos (by omega), if_pos (by omega), rd_at r i h1, rd_at l i h2, show (i : Int) + 1 = ((i + 1 : Nat) : Int) by omega, w64n _ (by omega), ih]
  rw [List.drop_eq_getElem_cons h1, List.drop_eq_getElem_cons h2, List.map_cons, List.map_cons]
  simp only [Lib.toList_data]
  rw [show r[i].f0.data.toList = kx r[i] from rfl, show l[i].f0.data.toList = kx l[i] from rfl, show r[i].f1.data.toList = vx r[i] from rfl, show l[i].f1.data.toList = vx l[i] from rfl]
  by_cases e1 : kx r[i] = kx l[i]
  ·by_cases e2 : vx r[i] = vx l[i]
   ·rw [if_neg (by simp [e1, e2])]
    congr 1
    rw [decide_eq_decide]
    constructor
    ·intro h
     rw [h, show dd r[i] = dd l[i] by unfold dd; rw [e1, e2]]
    ·intro h
     injection h
   ·rw [if_pos (by simp [e2])]
    congr 1
    symm
    apply decide_eq_false
    intro h
    injection h with h _
    injection h with _ h
    exact e2 h
  ·rw [if_pos (by simp [e1])]
   congr 1
   symm
   apply decide_eq_false
   intro h
   injection h with h _
   injection h with h _
   exact e1 h
theorem same_f (r l : List Pr) (hl : l.length ≤ 2097152) (k : Nat) (hk : l.length < k) : oakumref07_Same.f k r l = some (decide (r.map dd = l.map dd)) := by
 unfold oakumref07_Same.f
 by_cases he : r.length = l.length
 ·rw [if_pos (by omega)]
  have := same_l0 r l hl he l.length 0 k (by omega) hk
  rw [List.drop_zero, List.drop_zero] at this
  exact this
 ·rw [if_neg (by omega)]
  congr 1
  symm
  apply decide_eq_false
  intro h
  have := congrArg List.length h
  simp at this
  exact he this
theorem sorted_dd (l : List Pr) : Sorted l ↔ (l.map dd).Pairwise (fun x y => Op.bytesLess x.1 y.1 = true) ∧ ∀ p ∈ l.map dd, p.2 ≠ [] := by
 unfold Sorted
 rw [List.pairwise_map, List.forall_mem_map]
 exact Iff.rfl
def rounds (l : List Pr) (F : Nat) : Nat := (l.length + 2) * (l.length + 3) + 3 * l.length + F + 20
theorem lay_f (l : List Pr) (hl : l.length ≤ 2097152) (k : Nat) : oakumref08_Lay.f k l [] = oakumref08_Lay.l0 k l [] ⟨#[]⟩ true := by
 unfold oakumref08_Lay.f
 rw [Option.bind_some, List.nil_append, if_pos (by simp; omega), Option.bind_some, if_pos (by simp; omega), List.append_nil]
theorem right_l0 (l : List Pr) (F : Nat) (hs : Small l F) : ∀ (m : List Pr) (i k : Nat), l.drop i = m → (l.length + 2) * (l.length + 3) + 2 * l.length + F + 19 + m.length ≤ k →
  oakumref08_Right.l0 k l (i : Int) = some (m.all pOK && sortF none l)
 | [], i, k, hd, hk => by
  obtain ⟨k, rfl⟩ : ∃ j, k = j + 1 := ⟨k - 1, by omega⟩
  have : l.length ≤ i := List.drop_eq_nil_iff.1 hd
  have hn := hs.1
  have hmul : (l.length + 2) * (l.length + 3) = (l.length + 1) * (l.length + 3) + (l.length + 3) := Nat.succ_mul (l.length + 1) _
  simp only [oakumref08_Right.l0]
  rw [if_neg (by omega), lay_f l hn]
  simp only [List.all_nil, Bool.true_and]
  by_cases hso : Sorted l
  ·have := lay_sorted l hn hso l.length 0 k ⟨#[]⟩ true (by omega) (by simp only [List.length_nil] at hk; omega) (.inl ⟨rfl, rfl⟩)
   rw [List.take_zero] at this
   rw [this, Option.bind_some, same_f l l hn k (by omega), (sortF_none l).2 hso, decide_eq_true rfl]
   rfl
  ·obtain ⟨r, e, hr⟩ := lay_ok l hn l.length k [] ⟨#[]⟩ true List.countP_le_length (by simp only [List.length_nil] at hk; omega) (by simp; omega) ⟨List.Pairwise.nil, by simp⟩ (by simp)
   rw [e, Option.bind_some, same_f r l hn k (by omega)]
   have hne : ¬ r.map dd = l.map dd := by
    intro h
    apply hso
    rw [sorted_dd] at hr ⊢
    rw [← h]
    exact hr
   rw [decide_eq_false hne]
   have : sortF none l = false := by
    cases h : sortF none l with
    | false => rfl
    | true => exact absurd ((sortF_none l).1 h) hso
   rw [this]
   rfl
 | x :: m, i, k, hd, hk => by
  obtain ⟨k, rfl⟩ : ∃ j, k = j + 1 := ⟨k - 1, by omega⟩
  have hi : i < l.length := by
   have := congrArg List.length hd
   simp at this
   omega
  have h2 := List.drop_eq_getElem_cons hi
  rw [hd] at h2
  injection h2 with hx ht
  have hr := rd_at l i hi
  rw [← hx] at hr
  have hmem : x ∈ l := hx ▸ List.getElem_mem hi
  obtain ⟨s1, s2, s3⟩ := hs.2 x hmem
  have hn := hs.1
  have ih := right_l0 l F hs m (i + 1) k ht.symm (by simp only [List.length_cons] at hk; omega)
  simp only [oakumref08_Right.l0]
  rw [if_pos (by omega), if_pos (by omega), hr, pair_ref x.f0 x.f1 s1 s2 k (by omega), Option.bind_some, show (i : Int) + 1 = ((i + 1 : Nat) : Int) by omega, w64n _ (by omega), ih, List.all_cons]
  rw [show pOK x = pairOK x.f0.data.toList x.f1.data.toList from rfl]
  cases pairOK x.f0.data.toList x.f1.data.toList <;> rfl
theorem over_ref (l : List Pr) (F : Nat) (hs : Small l F) (k : Nat) (hk : rounds l F ≤ k) : oakumref08_Right.f k l = some (overOK l) := by
 unfold oakumref08_Right.f overOK
 unfold rounds at hk
 exact right_l0 l F hs l 0 k rfl (by omega)
end Go.Proofs.YtejdmofljifkbaaGreatDoor.P
namespace Go.Proofs.YtejdmofljifkbaaGreatDoor.P
open Go.RowKit Go.Proofs.YtejdmofljifkbaaGreatDoorW.PrintWords Go.Proofs.YtejdmofljifkbaaGreatDoorW.PrintLast Go.Proofs.YtejdmofljifkbaaGreatDoorW.PrintMore
theorem known_wh (l : List UInt8) : decide (whI l < 0) = !knownL l := by
 unfold whI knownL
 by_cases c0 : l = kPath
 ·subst c0; decide
 by_cases c1 : l = kLink
 ·subst c1; decide
 by_cases c2 : l = kUname
 ·subst c2; decide
 by_cases c3 : l = kGname
 ·subst c3; decide
 by_cases c4 : l = kUid
 ·subst c4; decide
 by_cases c5 : l = kGid
 ·subst c5; decide
 by_cases c6 : l = kSize
 ·subst c6; decide
 by_cases c7 : l = kMtime
 ·subst c7; decide
 rw [if_neg (Ne.symm c0), if_neg (Ne.symm c1), if_neg (Ne.symm c2), if_neg (Ne.symm c3), if_neg (Ne.symm c4), if_neg (Ne.symm c5), if_neg (Ne.symm c6), if_neg (Ne.symm c7)]
 unfold kPath at c0
 unfold kLink at c1
 unfold kUname at c2
 unfold kGname at c3
 unfold kUid at c4
 unfold kGid at c5
 unfold kSize at c6
 unfold kMtime at c7
 simp [c0, c1, c2, c3, c4, c5, c6, c7]
theorem key_ok (x : Pr) : keyOK x = !knownL x.f0.toList := by
 unfold keyOK
 rw [which_is x.f0 20 (by omega), Lib.toList_data, ← known_wh]
theorem all_key (l : List Pr) : l.all keyOK = !(l.any fun p => knownL p.f0.toList) := by
 induction l with
 | nil => rfl
 | cons x t ih =>
  rw [List.all_cons, List.any_cons, ih, key_ok, Bool.not_or]
theorem extra_f (l : List Pr) (F : Nat) (hs : Small l F) (k : Nat) (hk : l.length + F < k) : item_extra.f k l = some (overOK l && l.all keyOK) := by
 have hn := hs.1
 unfold item_extra.f
 rw [if_pos (by omega), over_prog l F hs k hk, Option.bind_some, all_key]
theorem wrong_prog (a0_0 : Int) (a0_1 : ByteArray) (a0_2 : ByteArray) (a0_3 : Int) (a0_4 : Int) (a0_5 : Int) (a0_6 : Int) (a0_7 : Int) (a0_8 : Int) (a0_9 : ByteArray) (a0_10 : ByteArray) (a0_11 : Int) (a0_12 : Int) (l0_13 : List Pr) (F : Nat) (hs : Small l0_13 F) (h1 : a0_1.size ≤ 2097152) (k : Nat) (hk : l0_13.length + F + 5 < k) :
  item_Wrong.f k a0_0 a0_1 a0_2 a0_3 a0_4 a0_5 a0_6 a0_7 a0_8 a0_9 a0_10 a0_11 a0_12 l0_13 = some (firstBad (okL a0_0 a0_1 a0_2 a0_3 a0_4 a0_5 a0_6 a0_7 a0_8 a0_9 a0_10 a0_11 a0_12 (overOK l0_13 && l0_13.all keyOK)) 1) := by
 unfold item_Wrong.f
 rw [if_pos h1, extra_f l0_13 F hs k (by omega), Option.bind_some]
theorem wrong_ref (a0_0 : Int) (a0_1 : ByteArray) (a0_2 : ByteArray) (a0_3 : Int) (a0_4 : Int) (a0_5 : Int) (a0_6 : Int) (a0_7 : Int) (a0_8 : Int) (a0_9 : ByteArray) (a0_10 : ByteArray) (a0_11 : Int) (a0_12 : Int) (l0_13 : List Pr) (F : Nat) (hs : Small l0_13 F) (h1 : a0_1.size ≤ 2097152) (h2 : a0_2.size ≤ 2097152) (h9 : a0_9.size ≤ 2097152) (h10 : a0_10.size ≤ 2097152) (k : Nat) (hk : rounds l0_13 F ≤ k) :
  oakumref09_Wrong.f k a0_0 a0_1 a0_2 a0_3 a0_4 a0_5 a0_6 a0_7 a0_8 a0_9 a0_10 a0_11 a0_12 l0_13 = some (firstBad (okL a0_0 a0_1 a0_2 a0_3 a0_4 a0_5 a0_6 a0_7 a0_8 a0_9 a0_10 a0_11 a0_12 (overOK l0_13 && l0_13.all keyOK)) 1) := by
 have hn := hs.1
 unfold oakumref09_Wrong.f
 rw [if_pos ⟨by omega, by omega, by omega, by omega, by omega⟩, over_ref l0_13 F hs k hk, Option.bind_some]
end Go.Proofs.YtejdmofljifkbaaGreatDoor.P
namespace Go.Proofs.YtejdmofljifkbaaGreatDoor.P
open Go.RowKit Go.Proofs.YtejdmofljifkbaaGreatDoorW.PrintWords Go.Proofs.YtejdmofljifkbaaGreatDoorW.PrintLast Go.Proofs.YtejdmofljifkbaaGreatDoorW.PrintMore
attribute [local go_sem] max2_int min2_int max_two min_two max_three min_three max_four min_four   -- for this text's walks alone
set_option linter.unusedVariables false
set_option linter.unusedSimpArgs false
def oakumref01_Same.f (l0 : List Int) (l1 : List Int) : Option (Bool) := some ((strOfNums l0).toList == (strOfNums l1).toList)
set_option maxHeartbeats 8000000 in
set_option maxRecDepth 100000 in
theorem oakumref01_Same.calls (A0 : Option Addr) (c0 : Nat) (l0 : List Int) (A1 : Option Addr) (c1 : Nat) (l1 : List Int) (r : Bool) (w : World) (hr0 : Kd.C (Kd.int .u8) w A0 l0.length l0) (hc0 : l0.length ≤ c0) (hr1 : Kd.C (Kd.int .u8) w A1 l1.length l1) (hc1 : l1.length ≤ c1) (h : oakumref01_Same.f l0 l1 = some r) :
  Calls Tryz.prog 89 #[.slice A0 l0.length c0, .slice A1 l1.length c1] w fun e w' => e = .returned (.bool r) ∧ Drawn0 w w' := by
 have HR0 := Aside0.mk hr0
 have HC0 := Aside0.mk hc0
 clear hr0 hc0
 have HR1 := Aside0.mk hr1
 have HC1 := Aside0.mk hc1
 clear hr1 hc1
 have H : (some ((strOfNums l0).toList == (strOfNums l1).toList)) = some r := h
 clear h
 obtain rfl := Option.some.inj H
 have hcv3 := Kd.C_string (P := Tryz.prog) (A := A0) (c := c0) Tryz.underlying27 Tryz.underlying5 Tryz.underlying9 HR0.out
 have hcv4 := Kd.C_string (P := Tryz.prog) (A := A1) (c := c1) Tryz.underlying27 Tryz.underlying5 Tryz.underlying9 HR1.out
 go_enter Tryz.func89, Tryz.ntmps89
 go_wp2
 go_ret
 exact ⟨Zr, Zd⟩
end Go.Proofs.YtejdmofljifkbaaGreatDoor.P
namespace Go.Proofs.YtejdmofljifkbaaGreatDoor.P
open Go.RowKit Go.Shelf Go.Sort Go.Proofs.YtejdmofljifkbaaGreatDoorW.PrintWords Go.Proofs.YtejdmofljifkbaaGreatDoorW.PrintLast Go.Proofs.YtejdmofljifkbaaGreatDoorW.PrintMore
set_option linter.unusedVariables false
attribute [local go_sem] Oper.semAt_some
set_option maxRecDepth 100000 in
set_option maxHeartbeats 6400000 in
theorem head_self (a0 : Int) (a1 : ByteArray) (a2 : ByteArray) (a3 : Int) (a4 : Int) (a5 : Int) (a6 : Int) (a7 : Int) (a8 : Int) (a9 : ByteArray) (a10 : ByteArray) (a11 : Int) (a12 : Int) (l : List S65) (A : Option Addr) (c : Nat) (B : Option Addr) (d : Nat) (w : World) (hA : Kd.C k65 w A l.length l) (hc : l.length ≤ c) (hB : Kd.C k65 w B l.length l) (hd : l.length ≤ d) (hl : l.length ≤ 2097152) :
  Calls Tryz.prog 88 #[.agg #[.int .i64 a0, .string a1, .string a2, .int .i64 a3, .int .i64 a4, .int .i64 a5, .int .i64 a6, .int .i64 a7, .int .i64 a8, .string a9, .string a10, .int .i64 a11, .int .i64 a12, .slice A l.length c], .agg #[.int .i64 a0, .string a1, .string a2, .int .i64 a3, .int .i64 a4, .int .i64 a5, .int .i64 a6, .int .i64 a7, .int .i64 a8, .string a9, .string a10, .int .i64 a11, .int .i64 a12, .slice B l.length d]] w fun e w' => e = .returned (.bool true) ∧ Below w.heap.size w w' := by
 have hu1 := Tryz.underlying26
 have hu2 := Tryz.underlying23
 have HA := Lib.hid hA
 have HB := Lib.hid hB
 have HC := Lib.hid hc
 have HD := Lib.hid hd
 have HS := Lib.hid (show oakumref07_Same.f 3000000 l l = some true from by rw [same_f l l hl 3000000 (by omega), decide_eq_true rfl])
 have hW := ((Below.refl _ w).alloc (Nat.le_refl _) (.cells #[.int .i64 a0, .string a1, .string a2, .int .i64 a3, .int .i64 a4, .int .i64 a5, .int .i64 a6, .int .i64 a7, .int .i64 a8, .string a9, .string a10, .int .i64 a11, .int .i64 a12, .slice A l.length c] 26)).alloc (by simp) (.cells #[.int .i64 a0, .string a1, .string a2, .int .i64 a3, .int .i64 a4, .int .i64 a5, .int .i64 a6, .int .i64 a7, .int .i64 a8, .string a9, .string a10, .int .i64 a11, .int .i64 a12, .slice B l.length d] 26)
 have HW := Lib.hid hW
 clear hA hB hc hd hl hW
 go_enter Tryz.func88, Tryz.ntmps88
 go_wp2_with fail
 refine (oakumref07_Same.calls 3000000 A c l B d l true _ (Kd.C_below HA.out HW.out) HC.out (Kd.C_below HB.out HW.out) HD.out HS.out).mono ?_
 rintro e w2 ⟨rfl, n, rfl⟩
 go_wp2
 go_ret
 exact ⟨rfl, pw_below_drewN HW.out n⟩
set_option maxRecDepth 100000 in
set_option maxHeartbeats 6400000 in
theorem item_same (a0 : Int) (a1 : ByteArray) (a2 : ByteArray) (a3 : Int) (a4 : Int) (a5 : Int) (a6 : Int) (a7 : Int) (a8 : Int) (a9 : ByteArray) (a10 : ByteArray) (a11 : Int) (a12 : Int) (l : List S65) (m : List Int) (A : Option Addr) (c : Nat) (A2 : Option Addr) (c2 : Nat) (B : Option Addr) (d : Nat) (B2 : Option Addr) (d2 : Nat) (w : World) (hA : Kd.C k65 w A l.length l) (hc : l.length ≤ c) (hA2 : Kd.C (Kd.int .u8) w A2 m.length m) (hc2 : m.length ≤ c2) (hB : Kd.C k65 w B l.length l) (hd : l.length ≤ d) (hB2 : Kd.C (Kd.int .u8) w B2 m.length m) (hd2 : m.length ≤ d2) (hl : l.length ≤ 2097152) :
  Calls Tryz.prog 43 #[.agg #[.int .i64 a0, .string a1, .string a2, .int .i64 a3, .int .i64 a4, .int .i64 a5, .int .i64 a6, .int .i64 a7, .int .i64 a8, .string a9, .string a10, .int .i64 a11, .int .i64 a12, .slice A l.length c, .slice A2 m.length c2], .agg #[.int .i64 a0, .string a1, .string a2, .int .i64 a3, .int .i64 a4, .int .i64 a5, .int .i64 a6, .int .i64 a7, .int .i64 a8, .string a9, .string a10, .int .i64 a11, .int .i64 a12, .slice B l.length d, .slice B2 m.length d2]] w fun e w' => e = .returned (.bool true) ∧ Below w.heap.size w w' := by
 have hu1 := Tryz.underlying29
 have hu2 := Tryz.underlying26
 have HA2 := Lib.hid hA2
 have HB2 := Lib.hid hB2
 have HC2 := Lib.hid hc2
 have HD2 := Lib.hid hd2
 have HW := Lib.hid (((Below.refl _ w).alloc (Nat.le_refl _) (.cells #[.int .i64 a0, .string a1, .string a2, .int .i64 a3, .int .i64 a4, .int .i64 a5, .int .i64 a6, .int .i64 a7, .int .i64 a8, .string a9, .string a10, .int .i64 a11, .int .i64 a12, .slice A l.length c, .slice A2 m.length c2] 29)).alloc (by simp) (.cells #[.int .i64 a0, .string a1, .string a2, .int .i64 a3, .int .i64 a4, .int .i64 a5, .int .i64 a6, .int .i64 a7, .int .i64 a8, .string a9, .string a10, .int .i64 a11, .int .i64 a12, .slice B l.length d, .slice B2 m.length d2] 29))
 have HH := Lib.hid (fun W (hb : Below w.heap.size w W) => head_self a0 a1 a2 a3 a4 a5 a6 a7 a8 a9 a10 a11 a12 l A c B d W (Kd.C_below hA hb) hc (Kd.C_below hB hb) hd hl)
 have B0 := Lib.hid ((Below.heap_alloc (w.alloc (.cells #[.int .i64 a0, .string a1, .string a2, .int .i64 a3, .int .i64 a4, .int .i64 a5, .int .i64 a6, .int .i64 a7, .int .i64 a8, .string a9, .string a10, .int .i64 a11, .int .i64 a12, .slice A l.length c, .slice A2 m.length c2] 29)) (.cells #[.int .i64 a0, .string a1, .string a2, .int .i64 a3, .int .i64 a4, .int .i64 a5, .int .i64 a6, .int .i64 a7, .int .i64 a8, .string a9, .string a10, .int .i64 a11, .int .i64 a12, .slice B l.length d, .slice B2 m.length d2] 29) w.heap.size (by simp)).trans (heap_alloc_new w (.cells #[.int .i64 a0, .string a1, .string a2, .int .i64 a3, .int .i64 a4, .int .i64 a5, .int .i64 a6, .int .i64 a7, .int .i64 a8, .string a9, .string a10, .int .i64 a11, .int .i64 a12, .slice A l.length c, .slice A2 m.length c2] 29)))
 have b1 := heap_alloc_new (w.alloc (.cells #[.int .i64 a0, .string a1, .string a2, .int .i64 a3, .int .i64 a4, .int .i64 a5, .int .i64 a6, .int .i64 a7, .int .i64 a8, .string a9, .string a10, .int .i64 a11, .int .i64 a12, .slice A l.length c, .slice A2 m.length c2] 29)) (.cells #[.int .i64 a0, .string a1, .string a2, .int .i64 a3, .int .i64 a4, .int .i64 a5, .int .i64 a6, .int .i64 a7, .int .i64 a8, .string a9, .string a10, .int .i64 a11, .int .i64 a12, .slice B l.length d, .slice B2 m.length d2] 29)
 rw [World.size_alloc] at b1
 have B1 := Lib.hid b1
 clear hA hA2 hB hB2 hc hc2 hd hd2 hl b1
 go_enter Tryz.func43, Tryz.ntmps43
 go_wp2_with fail
 refine (HH.out _ HW.out).mono ?_
 rintro e w2 ⟨rfl, hb⟩
 have HB3 := Lib.hid (below_step HW.out hb)
 have c14 : w2.cell? ⟨w.heap.size, 14, none⟩ = some (.slice A2 m.length c2) := ((hb.cell (p := ⟨w.heap.size, 14, none⟩) (by simp; omega)).trans (cell_of_row _ _ 14 _ _ _ B0.out)).trans rfl
 have d14 : w2.cell? ⟨w.heap.size + 1, 14, none⟩ = some (.slice B2 m.length d2) := ((hb.cell (p := ⟨w.heap.size + 1, 14, none⟩) (by simp)).trans (cell_of_row _ _ 14 _ _ _ B1.out)).trans rfl
 clear hb
 go_wp2_with fail
 refine (oakumref01_Same.calls A2 c2 m B2 d2 m true _ (Kd.C_below HA2.out HB3.out) HC2.out (Kd.C_below HB2.out HB3.out) HD2.out (by unfold oakumref01_Same.f; rw [beq_self_eq_true])).mono ?_
 rintro e w3 ⟨rfl, n, rfl⟩
 go_wp2
 go_ret
 exact ⟨rfl, pw_below_drewN HB3.out n⟩
set_option maxRecDepth 100000 in
set_option maxHeartbeats 6400000 in
theorem all_same (A0 : Option Addr) (c0 : Nat) (A1 : Option Addr) (c1 : Nat) (l : List It) (w : World) (hr0 : Kd.C k29 w A0 l.length l) (hr1 : Kd.C k29 w A1 l.length l) (hl : l.length ≤ 2000000) (hx : ∀ x ∈ l, x.f0.f12.length ≤ 2097152) :
  Calls Tryz.prog 15 #[.slice A0 l.length c0, .slice A1 l.length c1] w fun e w' => e = .returned (.bool true) ∧ Below w.heap.size w w' := by
 have HR0 := Lib.hid hr0
 have HR1 := Lib.hid hr1
 have HL := Lib.hid hl
 have HX := Lib.hid hx
 clear hr0 hr1 hl hx
 go_enter Tryz.func15, Tryz.ntmps15
 go_wp2_with fail
 go_loopg [5] (l.length) (fun gk v5 wr => ∃ (x : Int), v5 = .int .i64 x ∧ Aside0 (∃ n : Nat, x = (n : Int) ∧ n + gk = l.length) ∧ Aside0 (Below w.heap.size w wr))
 case atStart => exact ⟨0, rfl, ⟨0, rfl, by omega⟩, ⟨Below.refl _ _⟩⟩
 case round =>
  obtain ⟨x, rfl, HN, HB⟩ := hrel
  obtain ⟨n, hx, hn⟩ := HN.out
  cases gk with
  | zero =>
   have hlt : decide (x < (l.length : Int)) = false := decide_eq_false (by omega)
   clear hx hn HN
   go_wp2
   go_ret
   exact ⟨rfl, HB.out⟩
  | succ k =>
   have hi : n < l.length := by omega
   have h0 : (0 : Int) ≤ x := by omega
   have h1 : x < (l.length : Int) := by omega
   have hlt : decide (x < (l.length : Int)) = true := decide_eq_true h1
   obtain ⟨ad, A13, c13, A14, c14, rfl, k0, k1, k2, k3, k4, k5, k6, k7, k8, k9, k10, k11, k12, k13, k14, e13, g13, e14, g14⟩ := at_T29 (Kd.C_below HR0.out HB.out) x h0 h1
   obtain ⟨ae, B13, d13, B14, d14, rfl, j0, j1, j2, j3, j4, j5, j6, j7, j8, j9, j10, j11, j12, j13, j14, f13, q13, f14, q14⟩ := at_T29 (Kd.C_below HR1.out HB.out) x h0 h1
   have hm : rd_T29 l x ∈ l := by
    unfold rd_T29
    rw [hx, Int.toNat_natCast, List.getD_eq_getElem?_getD, List.getElem?_eq_getElem hi]
    exact List.getElem_mem _
   have hxl := HX.out _ hm
   have hw : wrap64 (x + 1) = ((n + 1 : Nat) : Int) := by
    have := HL.out
    rw [hx, show (n : Int) + 1 = ((n + 1 : Nat) : Int) by omega, w64n _ (by omega)]
   have HW := Lib.hid hw
   have HNN := Lib.hid hn
   generalize rd_T29 l x = X at *
   have KF := Lib.hid (fun dd os => Calls.regrown_of (item_same X.f0.f0 X.f0.f1 X.f0.f2 X.f0.f3 X.f0.f4 X.f0.f5 X.f0.f6 X.f0.f7.f0 X.f0.f7.f1 X.f0.f8 X.f0.f9 X.f0.f10 X.f0.f11 X.f0.f12 X.f1 A13 c13 A14 c14 B13 d13 B14 d14 (grow (redrawn wr dd) os) (Kd.C_below g13 (below_regrown wr dd os)) e13 (Kd.C_below g14 (below_regrown wr dd os)) e14 (Kd.C_below q13 (below_regrown wr dd os)) f13 (Kd.C_below q14 (below_regrown wr dd os)) f14 hxl))
   clear e13 g13 e14 g14 f13 q13 f14 q14 hm hxl hw hx hn hi HN
   replace k0 := cell_regrown k0
   replace j0 := cell_regrown j0
   replace k1 := cell_regrown k1
   replace j1 := cell_regrown j1
   replace k2 := cell_regrown k2
   replace j2 := cell_regrown j2
   replace k3 := cell_regrown k3
   replace j3 := cell_regrown j3
   replace k4 := cell_regrown k4
   replace j4 := cell_regrown j4
   replace k5 := cell_regrown k5
   replace j5 := cell_regrown j5
   replace k6 := cell_regrown k6
   replace j6 := cell_regrown j6
   replace k7 := cell_regrown k7
   replace j7 := cell_regrown j7
   replace k8 := cell_regrown k8
   replace j8 := cell_regrown j8
   replace k9 := cell_regrown k9
   replace j9 := cell_regrown j9
   replace k10 := cell_regrown k10
   replace j10 := cell_regrown j10
   replace k11 := cell_regrown k11
   replace j11 := cell_regrown j11
   replace k12 := cell_regrown k12
   replace j12 := cell_regrown j12
   replace k13 := cell_regrown k13
   replace j13 := cell_regrown j13
   replace k14 := cell_regrown k14
   replace j14 := cell_regrown j14
   have hu1 := Tryz.underlying29
   replace h0 := eq_true h0
   replace h1 := eq_true h1
   go_wp2_with fail
   refine wp_region_quiet_below (by kernel_rfl) (by kernel_rfl) ?_
   repeat (quiet_step ((with_reducible exact KF.out _ _)))
   refine wpQuiet_nil ?_
   intro _ hw'
   obtain ⟨⟨dq, osq⟩, hw''⟩ := hw'
   subst hw''
   have HB2 := Lib.hid (below_step HB.out (below_regrown wr dq osq))
   clear k0 j0 k1 j1 k2 j2 k3 j3 k4 j4 k5 j5 k6 j6 k7 j7 k8 j8 k9 j9 k10 j10 k11 j11 k12 j12 k13 j13 k14 j14 KF
   generalize grow (redrawn wr dq) osq = w2 at *
   go_wp2
   go_roundg k
   case measure => omega
   case rel => exact ⟨_, rfl, ⟨n + 1, HW.out, by have := HNN.out; omega⟩, ⟨HB2.out⟩⟩
end Go.Proofs.YtejdmofljifkbaaGreatDoor.P
namespace Go.Proofs.YtejdmofljifkbaaGreatDoor.P
open Go.RowKit Go.Proofs.YtejdmofljifkbaaGreatDoorW.PrintWords Go.Proofs.YtejdmofljifkbaaGreatDoorW.PrintLast Go.Proofs.YtejdmofljifkbaaGreatDoorW.PrintMore
attribute [local go_sem] max2_int min2_int max_two min_two max_three min_three max_four min_four   -- for this text's walks alone
set_option linter.unusedVariables false
set_option linter.unusedSimpArgs false
end Go.Proofs.YtejdmofljifkbaaGreatDoor.P
namespace Go.Proofs.YtejdmofljifkbaaGreatDoor.P
open Go.RowKit Go.Shelf Go.Proofs.YtejdmofljifkbaaGreatDoorW.PrintWords Go.Proofs.YtejdmofljifkbaaGreatDoorW.PrintLast Go.Proofs.YtejdmofljifkbaaGreatDoorW.PrintMore
set_option linter.unusedVariables false
def toR (r : Ru) : Rr := ⟨r.f0, r.f1⟩
theorem suffix_slash (s : ByteArray) : Lib.hasSuffix s.data.toList [47] = slashL s := by
 unfold Lib.hasSuffix slashL
 generalize s.data.toList = l
 rw [Bool.eq_iff_iff, List.isSuffixOf_iff_suffix]
 constructor
 ·rintro ⟨t, rfl⟩
  simp
 ·intro h
  have h2 : l.getLast? = some 47 := by simpa using h
  obtain ⟨t, rfl⟩ := List.getLast?_eq_some_iff.1 h2
  exact ⟨t, rfl⟩
theorem zero_clean (l : List UInt8) : zeroL l = !cleanL l := by
 unfold zeroL
 induction l with
 | nil => rfl
 | cons c t ih =>
  have e2 : cleanL (c :: t) = ((c != 0) && cleanL t) := rfl
  rw [List.any_cons, ih, e2, Bool.not_and]
  cases h : (c == 0) <;> simp [bne, h]
theorem right_same (rs : List Ru) (st : Int) (px : ByteArray) : rightR (rs.map toR) st px = rightP rs st px := by
 unfold rightR rightP
 rw [suffix_slash]
 have h1 : (rs.map toR).all okR = !(rs.any badR) := by
  induction rs with
  | nil => rfl
  | cons r t ih =>
   rw [List.map_cons, List.all_cons, ih, List.any_cons]
   unfold okR badR toR
   cases Gl.rightB r.f1 <;> rfl
 have h2 : decide (0 ≤ Lib.indexByte px.data.toList 0) = zeroL px.data.toList := by
  rw [zero_clean, ← index_clean]
  by_cases h : Lib.indexByte px.data.toList 0 < 0
  ·rw [decide_eq_true h, decide_eq_false (by omega)]; rfl
  ·rw [decide_eq_false h, decide_eq_true (by omega)]; rfl
 have h3 : decide (st < 0) = !decide (0 ≤ st) := by
  by_cases h : st < 0
  ·rw [decide_eq_true h, decide_eq_false (by omega)]; rfl
  ·rw [decide_eq_false h, decide_eq_true (by omega)]; rfl
 have h4 : decide (1000 < px.size) = !decide (px.size ≤ 1000) := by
  by_cases h : px.size ≤ 1000
  ·rw [decide_eq_true h, decide_eq_false (by omega)]; rfl
  ·rw [decide_eq_false h, decide_eq_true (by omega)]; rfl
 rw [h1, h2, h3, h4]
 cases (rs.any badR) <;> cases zeroL px.data.toList <;> cases decide (0 ≤ st) <;> cases decide (px.size ≤ 1000) <;> cases slashL px <;> rfl
theorem rule_right {rs : List Ru} {st : Int} {px : ByteArray} (h : rightP rs st px = true) : px.size ≤ 1000 ∧ ∀ r ∈ rs, Gl.rightB r.f1 = true := by
 rw [← right_same] at h
 unfold rightR at h
 simp only [Bool.and_eq_true, decide_eq_true_eq] at h
 refine ⟨h.2.2.2.1, fun r hr => ?_⟩
 exact (List.all_eq_true.1 h.1) (toR r) (List.mem_map_of_mem hr)
structure Fit (x : It) : Prop where
 s1 : x.f0.f1.size ≤ 2097152
 s2 : x.f0.f2.size ≤ 2097152
 s9 : x.f0.f8.size ≤ 2097152
 s10 : x.f0.f9.size ≤ 2097152
 hl : x.f0.f12.length ≤ 1048576
 hd : x.f1.length ≤ 1048576
 hp : ∀ p ∈ x.f0.f12, p.f0.size ≤ 1048576 ∧ p.f1.size ≤ 1048576
theorem Fit.small {x : It} (h : Fit x) : Small x.f0.f12 4000000 := ⟨by have := h.hl; omega, fun y hy => by obtain ⟨p1, p2⟩ := h.hp y hy; exact ⟨by omega, by omega, by omega⟩⟩
def oksL (x : It) : List Bool := okL x.f0.f0 x.f0.f1 x.f0.f2 x.f0.f3 x.f0.f4 x.f0.f5 x.f0.f6 x.f0.f7.f0 x.f0.f7.f1 x.f0.f8 x.f0.f9 x.f0.f10 x.f0.f11 (overOK x.f0.f12 && x.f0.f12.all keyOK)
def rightI (x : It) : Bool := decide (firstBad (oksL x) 1 = 0) && (x.f0.f6 == (x.f1.length : Int))
theorem rounds_le {x : It} (h : Fit x) : rounds x.f0.f12 4000000 ≤ 2000000000000 := by
 have h1 := h.hl
 unfold rounds
 generalize x.f0.f12.length = n at h1
 have h2 : (n + 2) * (n + 3) ≤ (1048576 + 2) * (1048576 + 3) := Nat.mul_le_mul (by omega) (by omega)
 omega
theorem itR_fit {x : It} (h : Fit x) (K : Nat) (hK : 2000000000000 ≤ K) : itR K x = some (rightI x) := by
 unfold itR item_Right.f rightI oksL
 rw [wrong_prog _ _ _ _ _ _ _ _ _ _ _ _ _ _ 4000000 h.small h.s1 K (by have := h.hl; omega), Option.bind_some]
 by_cases c : firstBad (okL x.f0.f0 x.f0.f1 x.f0.f2 x.f0.f3 x.f0.f4 x.f0.f5 x.f0.f6 x.f0.f7.f0 x.f0.f7.f1 x.f0.f8 x.f0.f9 x.f0.f10 x.f0.f11 (overOK x.f0.f12 && x.f0.f12.all keyOK)) 1 = 0
 ·rw [if_pos c, decide_eq_true c, Bool.true_and]
 ·rw [if_neg c, decide_eq_false c, Bool.false_and]
theorem itQ_fit {x : It} (h : Fit x) (K : Nat) (hK : 2000000000000 ≤ K) : itQ K x = some (rightI x) := by
 unfold itQ oakumref09_Right.f rightI oksL
 rw [wrong_ref _ _ _ _ _ _ _ _ _ _ _ _ _ _ 4000000 h.small h.s1 h.s2 h.s9 h.s10 K (Nat.le_trans (rounds_le h) hK), Option.bind_some]
 by_cases c : firstBad (okL x.f0.f0 x.f0.f1 x.f0.f2 x.f0.f3 x.f0.f4 x.f0.f5 x.f0.f6 x.f0.f7.f0 x.f0.f7.f1 x.f0.f8 x.f0.f9 x.f0.f10 x.f0.f11 (overOK x.f0.f12 && x.f0.f12.all keyOK)) 1 = 0
 ·rw [if_pos c, decide_eq_true c, Bool.true_and]
 ·rw [if_neg c, decide_eq_false c, Bool.false_and]
theorem bad_ge : ∀ (l : List Bool) (n : Int) (m : Nat), 1 ≤ m → firstBad l m = 0 → ∀ b ∈ l, b = true
 | [], _, _, _, _, b, hb => by cases hb
 | c :: t, n, m, hm, h, b, hb => by
  unfold firstBad at h
  cases c with
  | false => simp at h; omega
  | true =>
   rw [if_pos rfl] at h
   rcases List.mem_cons.1 hb with rfl | hb
   ·rfl
   ·exact bad_ge t n (m + 1) (by omega) h b hb
def s0 (x : It) : Nat := x.f0.f2.size
theorem name_size {s : ByteArray} (h : nameL s = true) : s.size ≤ 65536 := by
 unfold nameL at h
 simp only [Bool.and_eq_true, decide_eq_true_eq] at h
 exact h.2.1
theorem right_sizes {x : It} (h : rightI x = true) : x.f0.f1.size ≤ 65536 ∧ x.f0.f2.size ≤ 65536 := by
 unfold rightI at h
 simp only [Bool.and_eq_true, decide_eq_true_eq] at h
 have hall := bad_ge (oksL x) 0 1 (Nat.le_refl _) h.1
 constructor
 ·have := hall (nameL x.f0.f1 && !((x.f0.f0 == 1) && slashL x.f0.f1)) (by unfold oksL okL; simp)
  simp only [Bool.and_eq_true] at this
  exact name_size this.1
 ·have := hall (((x.f0.f0 == 2) || (x.f0.f0 == 3)) && nameL x.f0.f2 || (!((x.f0.f0 == 2) || (x.f0.f0 == 3)) && x.f0.f2.toList.isEmpty)) (by unfold oksL okL; simp)
  rw [Bool.or_eq_true] at this
  rcases this with h2 | h2
  ·simp only [Bool.and_eq_true] at h2
   exact name_size h2.2
  ·simp only [Bool.and_eq_true] at h2
   have h3 := h2.2
   rw [Lib.toList_data] at h3
   have h4 : s0 x = 0 := by
    unfold s0
    rw [← data_length]
    exact List.length_eq_zero_iff.2 (List.isEmpty_iff.1 h3)
   unfold s0 at h4
   omega
theorem nam_size (st : Int) (px s : ByteArray) (hs : s.size ≤ 65536) (hpx : px.size ≤ 1000) : (namL st px s).size ≤ 1100000 := by
 have hp : ∀ z : ByteArray, z.size ≤ 1000001 → (preL px z).size ≤ 1100000 := by
  intro z hz
  unfold preL
  split
  ·omega
  ·simp only [ByteArray.size_append, lit_size, List.size_toArray, List.length_cons, List.length_nil]
   omega
 unfold namL
 split
 ·split
  ·exact hp _ (strip_size s st (by omega))
  ·exact Nat.zero_le _
 ·exact hp _ (by omega)
theorem one_fit {x : It} (h : Fit x) (hr : rightI x = true) (st : Int) (px : ByteArray) (hpx : px.size ≤ 1000) : Fit (oneX st px x) := by
 obtain ⟨r1, r2⟩ := right_sizes hr
 refine ⟨?_, ?_, h.s9, h.s10, h.hl, h.hd, h.hp⟩
 ·have := nam_size st px x.f0.f1 r1 hpx
  show (namL st px x.f0.f1).size ≤ _
  omega
 ·show (if x.f0.f0 = 2 then namL st px x.f0.f2 else x.f0.f2).size ≤ _
  split
  ·have := nam_size st px x.f0.f2 r2 hpx
   omega
  ·exact h.s2
end Go.Proofs.YtejdmofljifkbaaGreatDoor.P
namespace Go.Proofs.YtejdmofljifkbaaGreatDoor.P
open Go.ChangeShapes Go.WideShapes Go.ChangeAt Go.RowKit Go.Proofs.YtejdmofljifkbaaGreatDoorW.PrintWords Go.Proofs.YtejdmofljifkbaaGreatDoorW.PrintLast Go.Proofs.YtejdmofljifkbaaGreatDoorW.PrintMore
section
variable {H : Type} {enc : TypeId × Value → H} {W : World} {base : Nat} {spare : Nat → Bool} {held : Bool}
def textOf : Value → ByteArray
 | .string s => s
 | _ => ⟨#[]⟩
theorem part_le {d : DataW H} {l : List (DataW H)} (h : d ∈ l) : Rows.uptoBulk d ≤ Rows.uptoBulkAll l := by
 induction l with
 | nil => cases h
 | cons x r ih =>
  simp only [Rows.uptoBulkAll]
  cases List.mem_cons.1 h with
  | inl e => subst e; omega
  | inr e => have := ih e; omega
theorem one_le (d : DataW H) : 1 ≤ Rows.uptoBulk d := by
 cases d with
 | lit l => cases l <;> simp [Rows.uptoBulk]
 | nil => simp [Rows.uptoBulk]
 | ptr d => simp [Rows.uptoBulk]
 | slice elems spare => simp [Rows.uptoBulk]
 | agg parts => simp [Rows.uptoBulk]
 | iface t d => simp [Rows.uptoBulk]
 | map entries => simp [Rows.uptoBulk]
 | held h => simp [Rows.uptoBulk]
theorem length_le (l : List (DataW H)) : l.length ≤ Rows.uptoBulkAll l := by
 induction l with
 | nil => simp [Rows.uptoBulkAll]
 | cons x r ih => have := one_le x; simp only [Rows.uptoBulkAll, List.length_cons]; omega
theorem open_pairs {fuel : Nat} {v : Value} {x : DataW H × List MemPlace} (h : DataW.trod enc Tryz.prog W base spare held fuel 24 [v] = some x) (hb : Rows.uptoBulk x.1 ≤ 1048576) :
  ∃ (A : Option Addr) (m : Nat) (l : List Pr), v = .slice A l.length m ∧ l.length ≤ m ∧ Kd.C k65 W A l.length l ∧ l.length ≤ 1048576 ∧ ∀ p ∈ l, p.f0.size ≤ 1048576 ∧ p.f1.size ≤ 1048576 := by
 rcases Go.Deep.open_slice_pairs Tryz.underlying24 Tryz.underlying65 (by kernel_rfl) rfl rfl (by kernel_rfl) (by kernel_rfl) h with ⟨hc, _⟩ | ⟨a, len, cap, m, n, V0, V1, D0, D1, P0, P1, hc, _, hl, hm, hmm, rfl, hx⟩
 ·injection hc with hc _
  subst hc
  exact ⟨none, 0, [], rfl, Nat.le_refl _, ⟨rfl, by decide, fun h => absurd h (by decide)⟩, by decide, by simp⟩
 ·injection hc with hc _
  subst hc
  have hml : maxLen = 9223372036854775807 := rfl
  have hlm : len ≤ m := by rw [hmm]; split <;> omega
  have hs : ∀ i, i < len → V0 i = .string (textOf (V0 i)) ∧ V1 i = .string (textOf (V1 i)) ∧ D0 i = .lit (.string (textOf (V0 i)).data.toList) ∧ D1 i = .lit (.string (textOf (V1 i)).data.toList) := by
   intro i hi
   obtain ⟨_, _, t0, t1⟩ := hx i (by omega)
   obtain ⟨s0, e0, d0, _⟩ := DataW.trod_string Tryz.underlying9 t0
   obtain ⟨s1, e1, d1, _⟩ := DataW.trod_string Tryz.underlying9 t1
   injection e0 with e0 _
   injection e1 with e1 _
   injection d0 with d0 _
   injection d1 with d1 _
   rw [e0, e1, d0, d1]
   exact ⟨rfl, rfl, rfl, rfl⟩
  have hlen : ((List.range len).map fun i => (⟨textOf (V0 i), textOf (V1 i)⟩ : Pr)).length = len := by simp
  have hbulk : Rows.uptoBulkAll ((List.range len).map fun i => DataW.agg [D0 i, D1 i]) ≤ 1048576 := by
   simp only [Rows.uptoBulk] at hb
   omega
  refine ⟨some a, cap, (List.range len).map fun i => ⟨textOf (V0 i), textOf (V1 i)⟩, by rw [hlen], by rw [hlen]; exact hl, ?_, ?_, ?_⟩
  ·rw [hlen]
   refine ⟨hlen, by omega, fun _ => ⟨a, rfl, ?_⟩⟩
   intro j p hp
   have hj : j < len := by
    have := (List.getElem?_eq_some_iff.1 hp).1
    rwa [hlen] at this
   obtain rfl : (⟨textOf (V0 j), textOf (V1 j)⟩ : Pr) = p := by
    rw [List.getElem?_map, List.getElem?_range hj] at hp
    exact Option.some.inj hp
   obtain ⟨c0, c1, _, _⟩ := hx j (by omega)
   obtain ⟨e0, e1, _, _⟩ := hs j hj
   refine ⟨[.string (textOf (V0 j)), .string (textOf (V1 j))], rfl, k65_mk _ _, ?_⟩
   intro i u hu
   rcases (by have := (List.getElem?_eq_some_iff.1 hu).1; simp at this; omega : i = 0 ∨ i = 1) with rfl | rfl
   ·obtain rfl : Value.string (textOf (V0 j)) = u := by simpa using hu
    rw [← e0]
    exact c0
   ·obtain rfl : Value.string (textOf (V1 j)) = u := by simpa using hu
    rw [← e1]
    exact c1
  ·rw [hlen]
   have := length_le ((List.range len).map fun i => DataW.agg [D0 i, D1 i])
   simp at this
   omega
  ·intro p hp
   obtain ⟨i, hi, rfl⟩ := List.mem_map.1 hp
   have hi := List.mem_range.1 hi
   obtain ⟨_, _, d0, d1⟩ := hs i hi
   have := part_le (List.mem_map.2 ⟨i, List.mem_range.2 hi, rfl⟩ : DataW.agg [D0 i, D1 i] ∈ (List.range len).map fun i => DataW.agg [D0 i, D1 i])
   rw [d0, d1] at this
   simp only [Rows.uptoBulk, Rows.uptoBulkAll, data_length] at this
   exact ⟨by show (textOf (V0 i)).size ≤ _; omega, by show (textOf (V1 i)).size ≤ _; omega⟩
theorem slice_len {t e : TypeId} {fuel : Nat} {A : Option Addr} {len m : Nat} {x : DataW H × List MemPlace} (ht : Tryz.prog.underlying t = some (.slice e)) (h : DataW.trod enc Tryz.prog W base spare held fuel t [.slice A len m] = some x) (hb : Rows.uptoBulk x.1 ≤ 1048576) : len ≤ 1048576 := by
 rcases Go.Deep.open_slice ht h with ⟨hc, _⟩ | ⟨a, len2, cap, m2, n, D, Pl, hc, _, hl, hm, hmm, rfl, hx⟩
 ·injection hc with hc _
  injection hc with _ hc _
  omega
 ·injection hc with hc _
  injection hc with _ hc _
  subst hc
  simp only [Rows.uptoBulk] at hb
  have := length_le ((List.range len).map D)
  simp at this
  omega
theorem open_bytes {fuel : Nat} {v : Value} {x : DataW H × List MemPlace} (h : DataW.trod enc Tryz.prog W base spare held fuel 27 [v] = some x) (hb : Rows.uptoBulk x.1 ≤ 1048576) :
  ∃ (A : Option Addr) (m : Nat) (d : List Int), v = .slice A d.length m ∧ d.length ≤ m ∧ (Kd.int .u8).C W A d.length d ∧ d.length ≤ 1048576 := by
 rcases open_ints Tryz.underlying27 Tryz.underlying5 (by kernel_rfl) h with ⟨hc, _⟩ | ⟨a, len, cap, zs, hc, _, hl, hm, hz, _, hcell, _⟩
 ·injection hc with hc _
  subst hc
  exact ⟨none, 0, [], rfl, Nat.le_refl _, ⟨rfl, by decide, fun h => absurd h (by decide)⟩, by decide⟩
 ·injection hc with hc _
  subst hc
  have hml : maxLen = 9223372036854775807 := rfl
  have hlz : len ≤ zs.length := by rw [hz]; split <;> omega
  have hlen : (zs.take len).length = len := by rw [List.length_take]; omega
  have hsl := slice_len Tryz.underlying27 h hb
  refine ⟨some a, cap, zs.take len, by rw [hlen], by rw [hlen]; exact hl, ?_, by rw [hlen]; exact hsl⟩
  rw [hlen]
  refine Kd.C_of_reads (d := (0 : Int)) (h1 := fun _ => rfl) ?_
  refine ⟨hlen, by omega, fun _ => ⟨a, rfl, fun j hj => ?_⟩⟩
  rw [hcell j (by omega), List.getD_eq_getElem?_getD, List.getD_eq_getElem?_getD, List.getElem?_take, if_pos hj]
end
structure Opened (W : World) (cs : List Value) (a0_0 : Int) (a0_1 : ByteArray) (a0_2 : ByteArray) (a0_3 : Int) (a0_4 : Int) (a0_5 : Int) (a0_6 : Int) (a0_7 : Int) (a0_8 : Int) (a0_9 : ByteArray) (a0_10 : ByteArray) (a0_11 : Int) (a0_12 : Int) (A13 : Option Addr) (m13 : Nat) (l13 : List Pr) (A14 : Option Addr) (m14 : Nat) (d : List Int) : Prop where
 cells : cs = [.int .i64 a0_0, .string a0_1, .string a0_2, .int .i64 a0_3, .int .i64 a0_4, .int .i64 a0_5, .int .i64 a0_6, .int .i64 a0_7, .int .i64 a0_8, .string a0_9, .string a0_10, .int .i64 a0_11, .int .i64 a0_12, .slice A13 l13.length m13, .slice A14 d.length m14]
 e13 : l13.length ≤ m13
 g13 : Kd.C k65 W A13 l13.length l13
 e14 : d.length ≤ m14
 g14 : (Kd.int .u8).C W A14 d.length d
 s1 : a0_1.size ≤ 1048576
 s2 : a0_2.size ≤ 1048576
 s9 : a0_9.size ≤ 1048576
 s10 : a0_10.size ≤ 1048576
 hl : l13.length ≤ 1048576
 hd : d.length ≤ 1048576
 hp : ∀ p ∈ l13, p.f0.size ≤ 1048576 ∧ p.f1.size ≤ 1048576
section
variable {H : Type} {enc : TypeId × Value → H} {W : World} {base : Nat} {spare : Nat → Bool} {held : Bool}
theorem open_item {fuel : Nat} {cs : List Value} {x : DataW H × List MemPlace} (h : DataW.trod enc Tryz.prog W base spare held fuel 29 cs = some x) (hb : Rows.uptoBulk x.1 ≤ 1048576) :
  ∃ a0_0 a0_1 a0_2 a0_3 a0_4 a0_5 a0_6 a0_7 a0_8 a0_9 a0_10 a0_11 a0_12 A13 m13 l13 A14 m14 d, Opened W cs a0_0 a0_1 a0_2 a0_3 a0_4 a0_5 a0_6 a0_7 a0_8 a0_9 a0_10 a0_11 a0_12 A13 m13 l13 A14 m14 d := by
 obtain ⟨y0, y1, n, rfl, hlen, t0, t1⟩ := trod_struct2 Tryz.underlying29 h
 rw [show Tryz.prog.cellsOf 29 = 15 by kernel_rfl] at hlen
 obtain ⟨v0, cs, rfl⟩ : ∃ v t, cs = v :: t := by cases cs with | nil => simp at hlen | cons v t => exact ⟨v, t, rfl⟩
 simp only [List.length_cons] at hlen
 obtain ⟨v1, cs, rfl⟩ : ∃ v t, cs = v :: t := by cases cs with | nil => simp at hlen | cons v t => exact ⟨v, t, rfl⟩
 simp only [List.length_cons] at hlen
 obtain ⟨v2, cs, rfl⟩ : ∃ v t, cs = v :: t := by cases cs with | nil => simp at hlen | cons v t => exact ⟨v, t, rfl⟩
 simp only [List.length_cons] at hlen
 obtain ⟨v3, cs, rfl⟩ : ∃ v t, cs = v :: t := by cases cs with | nil => simp at hlen | cons v t => exact ⟨v, t, rfl⟩
 simp only [List.length_cons] at hlen
 obtain ⟨v4, cs, rfl⟩ : ∃ v t, cs = v :: t := by cases cs with | nil => simp at hlen | cons v t => exact ⟨v, t, rfl⟩
 simp only [List.length_cons] at hlen
 obtain ⟨v5, cs, rfl⟩ : ∃ v t, cs = v :: t := by cases cs with | nil => simp at hlen | cons v t => exact ⟨v, t, rfl⟩
 simp only [List.length_cons] at hlen
 obtain ⟨v6, cs, rfl⟩ : ∃ v t, cs = v :: t := by cases cs with | nil => simp at hlen | cons v t => exact ⟨v, t, rfl⟩
 simp only [List.length_cons] at hlen
 obtain ⟨v7, cs, rfl⟩ : ∃ v t, cs = v :: t := by cases cs with | nil => simp at hlen | cons v t => exact ⟨v, t, rfl⟩
 simp only [List.length_cons] at hlen
 obtain ⟨v8, cs, rfl⟩ : ∃ v t, cs = v :: t := by cases cs with | nil => simp at hlen | cons v t => exact ⟨v, t, rfl⟩
 simp only [List.length_cons] at hlen
 obtain ⟨v9, cs, rfl⟩ : ∃ v t, cs = v :: t := by cases cs with | nil => simp at hlen | cons v t => exact ⟨v, t, rfl⟩
 simp only [List.length_cons] at hlen
 obtain ⟨v10, cs, rfl⟩ : ∃ v t, cs = v :: t := by cases cs with | nil => simp at hlen | cons v t => exact ⟨v, t, rfl⟩
 simp only [List.length_cons] at hlen
 obtain ⟨v11, cs, rfl⟩ : ∃ v t, cs = v :: t := by cases cs with | nil => simp at hlen | cons v t => exact ⟨v, t, rfl⟩
 simp only [List.length_cons] at hlen
 obtain ⟨v12, cs, rfl⟩ : ∃ v t, cs = v :: t := by cases cs with | nil => simp at hlen | cons v t => exact ⟨v, t, rfl⟩
 simp only [List.length_cons] at hlen
 obtain ⟨v13, cs, rfl⟩ : ∃ v t, cs = v :: t := by cases cs with | nil => simp at hlen | cons v t => exact ⟨v, t, rfl⟩
 simp only [List.length_cons] at hlen
 obtain ⟨v14, cs, rfl⟩ : ∃ v t, cs = v :: t := by cases cs with | nil => simp at hlen | cons v t => exact ⟨v, t, rfl⟩
 simp only [List.length_cons] at hlen
 obtain rfl : cs = [] := List.length_eq_zero_iff.1 (by omega)
 replace t0 : DataW.trod enc Tryz.prog W base spare held n 26 [v0, v1, v2, v3, v4, v5, v6, v7, v8, v9, v10, v11, v12, v13] = some y0 := by
  have e : Tryz.prog.cellsOf 26 = 14 := by kernel_rfl
  simpa [e] using t0
 replace t1 : DataW.trod enc Tryz.prog W base spare held n 27 [v14] = some y1 := by
  have e : Tryz.prog.cellsOf 27 = 1 := by kernel_rfl
  simpa [e] using t1
 obtain ⟨xs, n2, _, rfl, _, hxs, hf⟩ := DataW.trod_struct Tryz.underlying26 t0
 replace hxs : xs.length = 13 := hxs
 obtain ⟨x0, xs, rfl⟩ : ∃ v t, xs = v :: t := by cases xs with | nil => simp at hxs | cons v t => exact ⟨v, t, rfl⟩
 simp only [List.length_cons] at hxs
 obtain ⟨x1, xs, rfl⟩ : ∃ v t, xs = v :: t := by cases xs with | nil => simp at hxs | cons v t => exact ⟨v, t, rfl⟩
 simp only [List.length_cons] at hxs
 obtain ⟨x2, xs, rfl⟩ : ∃ v t, xs = v :: t := by cases xs with | nil => simp at hxs | cons v t => exact ⟨v, t, rfl⟩
 simp only [List.length_cons] at hxs
 obtain ⟨x3, xs, rfl⟩ : ∃ v t, xs = v :: t := by cases xs with | nil => simp at hxs | cons v t => exact ⟨v, t, rfl⟩
 simp only [List.length_cons] at hxs
 obtain ⟨x4, xs, rfl⟩ : ∃ v t, xs = v :: t := by cases xs with | nil => simp at hxs | cons v t => exact ⟨v, t, rfl⟩
 simp only [List.length_cons] at hxs
 obtain ⟨x5, xs, rfl⟩ : ∃ v t, xs = v :: t := by cases xs with | nil => simp at hxs | cons v t => exact ⟨v, t, rfl⟩
 simp only [List.length_cons] at hxs
 obtain ⟨x6, xs, rfl⟩ : ∃ v t, xs = v :: t := by cases xs with | nil => simp at hxs | cons v t => exact ⟨v, t, rfl⟩
 simp only [List.length_cons] at hxs
 obtain ⟨x7, xs, rfl⟩ : ∃ v t, xs = v :: t := by cases xs with | nil => simp at hxs | cons v t => exact ⟨v, t, rfl⟩
 simp only [List.length_cons] at hxs
 obtain ⟨x8, xs, rfl⟩ : ∃ v t, xs = v :: t := by cases xs with | nil => simp at hxs | cons v t => exact ⟨v, t, rfl⟩
 simp only [List.length_cons] at hxs
 obtain ⟨x9, xs, rfl⟩ : ∃ v t, xs = v :: t := by cases xs with | nil => simp at hxs | cons v t => exact ⟨v, t, rfl⟩
 simp only [List.length_cons] at hxs
 obtain ⟨x10, xs, rfl⟩ : ∃ v t, xs = v :: t := by cases xs with | nil => simp at hxs | cons v t => exact ⟨v, t, rfl⟩
 simp only [List.length_cons] at hxs
 obtain ⟨x11, xs, rfl⟩ : ∃ v t, xs = v :: t := by cases xs with | nil => simp at hxs | cons v t => exact ⟨v, t, rfl⟩
 simp only [List.length_cons] at hxs
 obtain ⟨x12, xs, rfl⟩ : ∃ v t, xs = v :: t := by cases xs with | nil => simp at hxs | cons v t => exact ⟨v, t, rfl⟩
 simp only [List.length_cons] at hxs
 obtain rfl : xs = [] := List.length_eq_zero_iff.1 (by omega)
 have wI : Tryz.prog.cellsOf 3 = 1 := by kernel_rfl
 have wJ : Tryz.prog.cellsOf 2 = 1 := by kernel_rfl
 have wS : Tryz.prog.cellsOf 9 = 1 := by kernel_rfl
 have wT : Tryz.prog.cellsOf 23 = 2 := by kernel_rfl
 have wE : Tryz.prog.cellsOf 24 = 1 := by kernel_rfl
 have f0 : DataW.trod enc Tryz.prog W base spare held n2 3 [v0] = some x0 := by
  have z := hf 0 _ rfl
  simpa [wI, wJ, wS, wT, wE] using z
 have f1 : DataW.trod enc Tryz.prog W base spare held n2 9 [v1] = some x1 := by
  have z := hf 1 _ rfl
  simpa [wI, wJ, wS, wT, wE] using z
 have f2 : DataW.trod enc Tryz.prog W base spare held n2 9 [v2] = some x2 := by
  have z := hf 2 _ rfl
  simpa [wI, wJ, wS, wT, wE] using z
 have f3 : DataW.trod enc Tryz.prog W base spare held n2 2 [v3] = some x3 := by
  have z := hf 3 _ rfl
  simpa [wI, wJ, wS, wT, wE] using z
 have f4 : DataW.trod enc Tryz.prog W base spare held n2 2 [v4] = some x4 := by
  have z := hf 4 _ rfl
  simpa [wI, wJ, wS, wT, wE] using z
 have f5 : DataW.trod enc Tryz.prog W base spare held n2 2 [v5] = some x5 := by
  have z := hf 5 _ rfl
  simpa [wI, wJ, wS, wT, wE] using z
 have f6 : DataW.trod enc Tryz.prog W base spare held n2 2 [v6] = some x6 := by
  have z := hf 6 _ rfl
  simpa [wI, wJ, wS, wT, wE] using z
 have f7 : DataW.trod enc Tryz.prog W base spare held n2 23 [v7, v8] = some x7 := by
  have z := hf 7 _ rfl
  simpa [wI, wJ, wS, wT, wE] using z
 have f8 : DataW.trod enc Tryz.prog W base spare held n2 9 [v9] = some x8 := by
  have z := hf 8 _ rfl
  simpa [wI, wJ, wS, wT, wE] using z
 have f9 : DataW.trod enc Tryz.prog W base spare held n2 9 [v10] = some x9 := by
  have z := hf 9 _ rfl
  simpa [wI, wJ, wS, wT, wE] using z
 have f10 : DataW.trod enc Tryz.prog W base spare held n2 2 [v11] = some x10 := by
  have z := hf 10 _ rfl
  simpa [wI, wJ, wS, wT, wE] using z
 have f11 : DataW.trod enc Tryz.prog W base spare held n2 2 [v12] = some x11 := by
  have z := hf 11 _ rfl
  simpa [wI, wJ, wS, wT, wE] using z
 have f12 : DataW.trod enc Tryz.prog W base spare held n2 24 [v13] = some x12 := by
  have z := hf 12 _ rfl
  simpa [wI, wJ, wS, wT, wE] using z
 clear hf
 obtain ⟨a0_0, e0, rfl, r0⟩ := DataW.trod_int Tryz.underlying3 f0
 injection e0 with e0 _
 subst e0
 obtain ⟨a0_1, e1, rfl, _⟩ := DataW.trod_string Tryz.underlying9 f1
 injection e1 with e1 _
 subst e1
 obtain ⟨a0_2, e2, rfl, _⟩ := DataW.trod_string Tryz.underlying9 f2
 injection e2 with e2 _
 subst e2
 obtain ⟨a0_3, e3, rfl, r3⟩ := DataW.trod_int Tryz.underlying2 f3
 injection e3 with e3 _
 subst e3
 obtain ⟨a0_4, e4, rfl, r4⟩ := DataW.trod_int Tryz.underlying2 f4
 injection e4 with e4 _
 subst e4
 obtain ⟨a0_5, e5, rfl, r5⟩ := DataW.trod_int Tryz.underlying2 f5
 injection e5 with e5 _
 subst e5
 obtain ⟨a0_6, e6, rfl, r6⟩ := DataW.trod_int Tryz.underlying2 f6
 injection e6 with e6 _
 subst e6
 obtain ⟨z0, z1, n3, rfl, _, u0, u1⟩ := trod_struct2 Tryz.underlying23 f7
 replace u0 : DataW.trod enc Tryz.prog W base spare held n3 2 [v7] = some z0 := by simpa [wJ] using u0
 replace u1 : DataW.trod enc Tryz.prog W base spare held n3 2 [v8] = some z1 := by simpa [wJ] using u1
 obtain ⟨a0_7, e7, rfl, r7⟩ := DataW.trod_int Tryz.underlying2 u0
 injection e7 with e7 _
 subst e7
 obtain ⟨a0_8, e8, rfl, r8⟩ := DataW.trod_int Tryz.underlying2 u1
 injection e8 with e8 _
 subst e8
 obtain ⟨a0_9, e9, rfl, _⟩ := DataW.trod_string Tryz.underlying9 f8
 injection e9 with e9 _
 subst e9
 obtain ⟨a0_10, e10, rfl, _⟩ := DataW.trod_string Tryz.underlying9 f9
 injection e10 with e10 _
 subst e10
 obtain ⟨a0_11, e11, rfl, r11⟩ := DataW.trod_int Tryz.underlying2 f10
 injection e11 with e11 _
 subst e11
 obtain ⟨a0_12, e12, rfl, r12⟩ := DataW.trod_int Tryz.underlying2 f11
 injection e12 with e12 _
 subst e12
 simp only [Rows.uptoBulk, Rows.uptoBulkAll, List.map_cons, List.map_nil, data_length] at hb
 obtain ⟨A13, m13, l13, e13, le13, g13, hl, hp⟩ := open_pairs f12 (by omega)
 obtain ⟨A14, m14, d, e14, le14, g14, hd⟩ := open_bytes t1 (by omega)
 subst e13 e14
 exact ⟨a0_0, a0_1, a0_2, a0_3, a0_4, a0_5, a0_6, a0_7, a0_8, a0_9, a0_10, a0_11, a0_12, A13, m13, l13, A14, m14, d, rfl, le13, g13, le14, g14, by omega, by omega, by omega, by omega, hl, hd, hp⟩
def exA0 : It := ⟨⟨0, ⟨#[]⟩, ⟨#[]⟩, 0, 0, 0, 0, ⟨0, 0⟩, ⟨#[]⟩, ⟨#[]⟩, 0, 0, []⟩, []⟩
theorem open_items {fuel : Nat} {v : Value} {x : DataW H × List MemPlace} (h : DataW.trod enc Tryz.prog W base spare held fuel 32 [v] = some x) (hb : Rows.uptoBulk x.1 ≤ 1048576) :
  ∃ (A : Option Addr) (m : Nat) (l : List It), v = .slice A l.length m ∧ l.length ≤ m ∧ Kd.C k29 W A l.length l ∧ l.length ≤ 1048576 ∧ ∀ y ∈ l, Fit y := by
 rcases Go.Deep.open_slice Tryz.underlying32 h with ⟨hc, _⟩ | ⟨a, len, cap, m, n, D, Pl, hc, _, hl, hm, hmm, rfl, hx⟩
 ·injection hc with hc _
  subst hc
  exact ⟨none, 0, [], rfl, Nat.le_refl _, ⟨rfl, by decide, fun h => absurd h (by decide)⟩, by decide, by simp⟩
 ·injection hc with hc _
  subst hc
  have hml : maxLen = 9223372036854775807 := rfl
  have hlm : len ≤ m := by rw [hmm]; split <;> omega
  rw [show Tryz.prog.cellsOf 29 = 15 by kernel_rfl] at hx
  have hlen1 : len ≤ 1048576 := by
   have hb2 := hb
   simp only [Rows.uptoBulk] at hb2
   have := length_le ((List.range len).map D)
   simp at this
   omega
  have key : ∀ i : Nat, ∃ y : It, i < len → (∃ cs : List Value, cs.length = 15 ∧ k29.K W y cs ∧ ∀ (j : Nat) u, cs[j]? = some u → W.cell? ((a.add (i * 15)).add j) = some u) ∧ Fit y := by
   intro i
   by_cases hi : i < len
   ·obtain ⟨cs, hcs, ht⟩ := hx i (by omega)
    obtain ⟨_, hcl, hat⟩ := World.cells?_some hcs
    have hbi : Rows.uptoBulk (D i) ≤ 1048576 := by
     have := part_le (List.mem_map.2 ⟨i, List.mem_range.2 hi, rfl⟩ : D i ∈ (List.range len).map D)
     have hb2 := hb
     simp only [Rows.uptoBulk] at hb2
     omega
    obtain ⟨a0, a1, a2, a3, a4, a5, a6, a7, a8, a9, a10, a11, a12, A13, m13, l13, A14, m14, d, O⟩ := open_item ht hbi
    refine ⟨⟨⟨a0, a1, a2, a3, a4, a5, a6, ⟨a7, a8⟩, a9, a10, a11, a12, l13⟩, d⟩, fun _ => ⟨⟨cs, hcl, ?_, ?_⟩, ?_⟩⟩
    ·rw [O.cells]
     refine k29_mk W _ ?_ ?_ ?_ ?_
     ·exact O.e13
     ·exact O.g13
     ·exact O.e14
     ·exact O.g14
    ·intro j u hu
     rw [hat j (by have := (List.getElem?_eq_some_iff.1 hu).1; omega)]
     exact hu
    ·have h1 := O.s1
     have h2 := O.s2
     have h9 := O.s9
     have h10 := O.s10
     exact ⟨by show a1.size ≤ _; omega, by show a2.size ≤ _; omega, by show a9.size ≤ _; omega, by show a10.size ≤ _; omega, O.hl, O.hd, O.hp⟩
   ·exact ⟨exA0, fun h => absurd h hi⟩
  obtain ⟨Y, hY⟩ : ∃ Y : Nat → It, ∀ i, i < len → (∃ cs : List Value, cs.length = 15 ∧ k29.K W (Y i) cs ∧ ∀ (j : Nat) u, cs[j]? = some u → W.cell? ((a.add (i * 15)).add j) = some u) ∧ Fit (Y i) := ⟨fun i => (key i).choose, fun i => (key i).choose_spec⟩
  have hlen : ((List.range len).map Y).length = len := by simp
  refine ⟨some a, cap, (List.range len).map Y, by rw [hlen], by rw [hlen]; exact hl, ?_, by rw [hlen]; exact hlen1, ?_⟩
  ·rw [hlen]
   refine ⟨hlen, by omega, fun _ => ⟨a, rfl, ?_⟩⟩
   intro j p hp
   have hj : j < len := by
    have := (List.getElem?_eq_some_iff.1 hp).1
    rwa [hlen] at this
   obtain rfl : Y j = p := by
    rw [List.getElem?_map, List.getElem?_range hj] at hp
    exact Option.some.inj hp
   obtain ⟨⟨cs, h1, h2, h3⟩, _⟩ := hY j hj
   refine ⟨cs, h1, h2, fun i u hu => ?_⟩
   have := h3 i u hu
   rw [add_add] at this
   exact this
  ·intro y hy
   obtain ⟨i, hi, rfl⟩ := List.mem_map.1 hy
   exact (hY i (List.mem_range.1 hi)).2
def boolOf : Value → Bool
 | .bool b => b
 | _ => false
theorem open_rules {fuel : Nat} {v : Value} {x : DataW H × List MemPlace} (h : DataW.trod enc Tryz.prog W base spare held fuel 41 [v] = some x) (hb : Rows.uptoBulk x.1 ≤ 1048576) :
  ∃ (A : Option Addr) (m : Nat) (l : List Ru), v = .slice A l.length m ∧ l.length ≤ m ∧ Kd.C k45 W A l.length l := by
 rcases Go.Deep.open_slice_pairs Tryz.underlying41 Tryz.underlying45 (by kernel_rfl) rfl rfl (by kernel_rfl) (by kernel_rfl) h with ⟨hc, _⟩ | ⟨a, len, cap, m, n, V0, V1, D0, D1, P0, P1, hc, _, hl, hm, hmm, rfl, hx⟩
 ·injection hc with hc _
  subst hc
  exact ⟨none, 0, [], rfl, Nat.le_refl _, ⟨rfl, by decide, fun h => absurd h (by decide)⟩⟩
 ·injection hc with hc _
  subst hc
  have hml : maxLen = 9223372036854775807 := rfl
  have hlm : len ≤ m := by rw [hmm]; split <;> omega
  have hs : ∀ i, i < len → V0 i = .bool (boolOf (V0 i)) ∧ V1 i = .string (textOf (V1 i)) := by
   intro i hi
   obtain ⟨_, _, t0, t1⟩ := hx i (by omega)
   obtain ⟨s0, e0, _⟩ := DataW.trod_bool Tryz.underlying4 t0
   obtain ⟨s1, e1, d1, _⟩ := DataW.trod_string Tryz.underlying9 t1
   injection e0 with e0 _
   injection e1 with e1 _
   rw [e0, e1]
   exact ⟨rfl, rfl⟩
  have hlen : ((List.range len).map fun i => (⟨boolOf (V0 i), textOf (V1 i)⟩ : Ru)).length = len := by simp
  refine ⟨some a, cap, (List.range len).map fun i => ⟨boolOf (V0 i), textOf (V1 i)⟩, by rw [hlen], by rw [hlen]; exact hl, ?_⟩
  rw [hlen]
  refine ⟨hlen, by omega, fun _ => ⟨a, rfl, ?_⟩⟩
  intro j p hp
  have hj : j < len := by
   have := (List.getElem?_eq_some_iff.1 hp).1
   rwa [hlen] at this
  obtain rfl : (⟨boolOf (V0 j), textOf (V1 j)⟩ : Ru) = p := by
   rw [List.getElem?_map, List.getElem?_range hj] at hp
   exact Option.some.inj hp
  obtain ⟨c0, c1, _, _⟩ := hx j (by omega)
  obtain ⟨e0, e1⟩ := hs j hj
  refine ⟨[.bool (boolOf (V0 j)), .string (textOf (V1 j))], rfl, k45_mk _ _, ?_⟩
  intro i u hu
  rcases (by have := (List.getElem?_eq_some_iff.1 hu).1; simp at this; omega : i = 0 ∨ i = 1) with rfl | rfl
  ·obtain rfl : Value.bool (boolOf (V0 j)) = u := by simpa using hu
   rw [← e0]
   exact c0
  ·obtain rfl : Value.string (textOf (V1 j)) = u := by simpa using hu
   rw [← e1]
   exact c1
theorem open_plan {fuel : Nat} {cs : List Value} {x : DataW H × List MemPlace} (h : DataW.trod enc Tryz.prog W base spare held fuel 43 cs = some x) (hb : Rows.uptoBulk x.1 ≤ 1048576) :
  ∃ (all : Bool) (A : Option Addr) (m : Nat) (rs : List Ru) (st : Int) (px : ByteArray), cs = [.bool all, .slice A rs.length m, .int .i64 st, .string px] ∧ rs.length ≤ m ∧ Kd.C k45 W A rs.length rs := by
 obtain ⟨xs, n, _, rfl, hlen, hxs, hf⟩ := DataW.trod_struct Tryz.underlying43 h
 rw [show Tryz.prog.cellsOf 43 = 4 by kernel_rfl] at hlen
 replace hxs : xs.length = 4 := hxs
 obtain ⟨v0, cs, rfl⟩ : ∃ v t, cs = v :: t := by cases cs with | nil => simp at hlen | cons v t => exact ⟨v, t, rfl⟩
 simp only [List.length_cons] at hlen
 obtain ⟨v1, cs, rfl⟩ : ∃ v t, cs = v :: t := by cases cs with | nil => simp at hlen | cons v t => exact ⟨v, t, rfl⟩
 simp only [List.length_cons] at hlen
 obtain ⟨v2, cs, rfl⟩ : ∃ v t, cs = v :: t := by cases cs with | nil => simp at hlen | cons v t => exact ⟨v, t, rfl⟩
 simp only [List.length_cons] at hlen
 obtain ⟨v3, cs, rfl⟩ : ∃ v t, cs = v :: t := by cases cs with | nil => simp at hlen | cons v t => exact ⟨v, t, rfl⟩
 simp only [List.length_cons] at hlen
 obtain rfl : cs = [] := List.length_eq_zero_iff.1 (by omega)
 obtain ⟨x0, xs, rfl⟩ : ∃ v t, xs = v :: t := by cases xs with | nil => simp at hxs | cons v t => exact ⟨v, t, rfl⟩
 simp only [List.length_cons] at hxs
 obtain ⟨x1, xs, rfl⟩ : ∃ v t, xs = v :: t := by cases xs with | nil => simp at hxs | cons v t => exact ⟨v, t, rfl⟩
 simp only [List.length_cons] at hxs
 obtain ⟨x2, xs, rfl⟩ : ∃ v t, xs = v :: t := by cases xs with | nil => simp at hxs | cons v t => exact ⟨v, t, rfl⟩
 simp only [List.length_cons] at hxs
 obtain ⟨x3, xs, rfl⟩ : ∃ v t, xs = v :: t := by cases xs with | nil => simp at hxs | cons v t => exact ⟨v, t, rfl⟩
 simp only [List.length_cons] at hxs
 obtain rfl : xs = [] := List.length_eq_zero_iff.1 (by omega)
 have wB : Tryz.prog.cellsOf 4 = 1 := by kernel_rfl
 have wR : Tryz.prog.cellsOf 41 = 1 := by kernel_rfl
 have wI : Tryz.prog.cellsOf 3 = 1 := by kernel_rfl
 have wS : Tryz.prog.cellsOf 9 = 1 := by kernel_rfl
 have f0 : DataW.trod enc Tryz.prog W base spare held n 4 [v0] = some x0 := by
  have z := hf 0 _ rfl
  simpa [wB] using z
 have f1 : DataW.trod enc Tryz.prog W base spare held n 41 [v1] = some x1 := by
  have z := hf 1 _ rfl
  simpa [wR] using z
 have f2 : DataW.trod enc Tryz.prog W base spare held n 3 [v2] = some x2 := by
  have z := hf 2 _ rfl
  simpa [wI] using z
 have f3 : DataW.trod enc Tryz.prog W base spare held n 9 [v3] = some x3 := by
  have z := hf 3 _ rfl
  simpa [wS] using z
 obtain ⟨b, e0, rfl⟩ := DataW.trod_bool Tryz.underlying4 f0
 injection e0 with e0 _
 subst e0
 obtain ⟨st, e2, rfl, _⟩ := DataW.trod_int Tryz.underlying3 f2
 injection e2 with e2 _
 subst e2
 obtain ⟨px, e3, rfl, _⟩ := DataW.trod_string Tryz.underlying9 f3
 injection e3 with e3 _
 subst e3
 simp only [Rows.uptoBulk, Rows.uptoBulkAll, List.map_cons, List.map_nil] at hb
 obtain ⟨A, m, rs, rfl, hle, hC⟩ := open_rules f1 (by omega)
 exact ⟨b, A, m, rs, st, px, rfl, hle, hC⟩
end
end Go.Proofs.YtejdmofljifkbaaGreatDoor.P
namespace Go.Proofs.YtejdmofljifkbaaGreatDoor
open Go.ChangeShapes Go.WideShapes Go.RowKit
theorem lays260 : Go.Proofs.Lays.n260 Tryz.prog Tryz.lays197_ren where
 mixed := Tryz.lays197.mixed
 f260 := Tryz.lays197.f260
 t0 := Tryz.lays197.t0
 a0 := Tryz.lays197.a0
 z0 := Tryz.lays197.z0
 v0 := Tryz.lays197.v0
 t3 := Tryz.lays197.t3
 a3 := Tryz.lays197.a3
 z3 := Tryz.lays197.z3
 v3 := Tryz.lays197.v3
 t4 := Tryz.lays197.t4
 a4 := Tryz.lays197.a4
 z4 := Tryz.lays197.z4
 v4 := Tryz.lays197.v4
 t5 := Tryz.lays197.t5
 a5 := Tryz.lays197.a5
 z5 := Tryz.lays197.z5
 v5 := Tryz.lays197.v5
 t9 := Tryz.lays197.t9
 a9 := Tryz.lays197.a9
 z9 := Tryz.lays197.z9
 v9 := Tryz.lays197.v9
 t21 := Tryz.lays197.t21
 a21 := Tryz.lays197.a21
 z21 := Tryz.lays197.z21
 v21 := Tryz.lays197.v21
 t46 := Tryz.lays197.t46
 a46 := Tryz.lays197.a46
 z46 := Tryz.lays197.z46
 v46 := Tryz.lays197.v46
 t119 := Tryz.lays197.t119
 a119 := Tryz.lays197.a119
 z119 := Tryz.lays197.z119
 t138 := Tryz.lays197.t138
 a138 := Tryz.lays197.a138
 z138 := Tryz.lays197.z138
 v138 := Tryz.lays197.v138
 t139 := Tryz.lays197.t139
 a139 := Tryz.lays197.a139
 z139 := Tryz.lays197.z139
 v139 := Tryz.lays197.v139
 g3 := Tryz.lays197.g3
 g4 := Tryz.lays197.g4
theorem u8extra : Go.Proofs.U8Extra Tryz.prog Tryz.lays197_ren where
 n3 := by kernel_rfl
 n4 := by kernel_rfl
 y3 := by kernel_rfl
 y4 := by kernel_rfl
 c5 := by kernel_rfl
 c119 := by kernel_rfl
 c138 := by kernel_rfl
theorem first_is : Go.Pinned.utf8First = Lib.firstData := by kernel_rfl
theorem accept_is : (Rows.laid_unicode_utf8_acceptRanges : DataW Unit) = Lib.acceptData := by kernel_rfl
theorem pow_is : (Rows.laid_internal_strconv_uint64pow10 : DataW Unit) = Lib.tabData .u64 Lib.pow10Tab := by kernel_rfl
theorem star : "*" ++ "errors.errorString" = "*errors.errorString" := by decide
theorem errRow : ∀ u, Tryz.prog.typeName? 3 u = some "*errors.errorString" → u = 250 := fun u h =>
 typeName_ptr_named (nm := "errors.errorString") (by rw [star]; kernel_rfl) (by kernel_rfl) (by decide) u (by rw [star]; exact h)
theorem glob_of {W : World} (h : laidMetH Tryz.prog Rows.listLinesUptoRow.laid W) (hs : W.ShapedOpen Tryz.prog) : Glob W := by
 have h0 : laidMet Tryz.prog [("math/bits.deBruijn32tab", Rows.laid_math_bits_deBruijn32tab), ("math/bits.deBruijn64tab", Rows.laid_math_bits_deBruijn64tab), ("internal/strconv.uint64pow10", Rows.laid_internal_strconv_uint64pow10), ("unicode/utf8.acceptRanges", Rows.laid_unicode_utf8_acceptRanges), ("strconv.ErrRange", Rows.laid_strconv_ErrRange), ("strconv.ErrSyntax", Rows.laid_strconv_ErrSyntax), ("unicode/utf8.first", Rows.laid_unicode_utf8_first)] W := h
 refine ⟨?_, ?_, ?_, ?_, ?_⟩
 ·have h2 := laidMet.tail (laidMet.tail h0)
  rw [pow_is] at h2
  exact Lib.tabIs_of_head (n := Lib.pow10Tab.length) (t := 201) (e := 177) (g := 1) (by kernel_rfl) (by kernel_rfl) (by kernel_rfl) (by kernel_rfl) (by kernel_rfl) (by kernel_rfl) h2
 ·have r1 := Lib.laidMet.reads h0 (n := "unicode/utf8.first") (d := Rows.laid_unicode_utf8_first) (by simp)
  have r2 := Lib.laidMet.reads h0 (n := "unicode/utf8.acceptRanges") (d := Rows.laid_unicode_utf8_acceptRanges) (by simp)
  rw [show Rows.laid_unicode_utf8_first = Lib.firstData from first_is] at r1
  rw [accept_is] at r2
  exact Go.Proofs.utf8Tabs_of_reads lays260 u8extra r1 r2
 ·obtain ⟨a, s, hv, _⟩ := laid_sentinel (tp := 250) (te := 252) (ti := 109) (ts := 9) (g := 6) (laidMet.tail (laidMet.tail (laidMet.tail (laidMet.tail (laidMet.tail h0))))) (by kernel_rfl) (by kernel_rfl) Tryz.underlying109 errRow Tryz.underlying250 Tryz.underlying252 rfl rfl Tryz.underlying9 (by kernel_rfl) (by kernel_rfl)
  exact ⟨_, _, World.var?_cell (g := 6) (by kernel_rfl) hv 0⟩
 ·obtain ⟨a, s, hv, _⟩ := laid_sentinel (tp := 250) (te := 252) (ti := 109) (ts := 9) (g := 7) (laidMet.tail (laidMet.tail (laidMet.tail (laidMet.tail h0)))) (by kernel_rfl) (by kernel_rfl) Tryz.underlying109 errRow Tryz.underlying250 Tryz.underlying252 rfl rfl Tryz.underlying9 (by kernel_rfl) (by kernel_rfl)
  exact ⟨_, _, World.var?_cell (g := 7) (by kernel_rfl) hv 0⟩
 ·exact Go.Proofs.cell_of_shapedOpen_int (g := 0) (t := 3) (zero := #[.int .i64 0]) hs (of_decide_eq_true (by kernel_rfl)) (by kernel_rfl) rfl (by kernel_rfl) (by kernel_rfl) Tryz.underlying3
end Go.Proofs.YtejdmofljifkbaaGreatDoor
namespace Go.Proofs.YtejdmofljifkbaaGreatDoor.P
open Go.RowKit Go.Shelf Go.Proofs.YtejdmofljifkbaaGreatDoorW.PrintWords Go.Proofs.YtejdmofljifkbaaGreatDoorW.PrintLast Go.Proofs.YtejdmofljifkbaaGreatDoorW.PrintMore
set_option linter.unusedVariables false
def itemsP (all : Bool) (rs : List Ru) (st : Int) (px : ByteArray) (l : List It) : List It × Int := itemsV (rightP rs st px) (fun x => takenL all rs x.f0.f1 && oneOk st x) (oneX st px) rightI l
theorem items_fit (all : Bool) (A : Option Addr) (cap : Nat) (rs : List Ru) (st : Int) (px : ByteArray) (w : World) (hr : Kd.C k45 w A rs.length rs) (hcap : rs.length ≤ cap) (hlen : rs.length ≤ 1000000) (hz : ∀ r ∈ rs, r.f1.size ≤ 1000) (hpx : px.size ≤ 1000000)
  (A0 : Option Addr) (c0 : Nat) (l0 : List It) (hr0 : Kd.C k29 w A0 l0.length l0) (hl : l0.length ≤ 2000000) (hG : Glob w) (hf : ∀ x ∈ l0, Fit x) :
  Calls Tryz.prog 14 #[.agg #[.bool all, .slice A rs.length cap, .int .i64 st, .string px], .slice A0 l0.length c0] w fun e w' => ItemsPost w w' e (itemsP all rs st px l0) :=
 items_calls 2000000000000 rightI all A cap rs st px w hr hcap hlen hz hpx A0 c0 l0 hr0 hl hG (fun x hx => itR_fit (hf x hx) _ (Nat.le_refl _))
  (fun x hx h => by
   obtain ⟨r1, r2⟩ := right_sizes h
   have h3 := (hf x hx).hl
   have h4 := (hf x hx).hd
   exact ⟨by omega, by omega, by omega, by omega⟩)
  (fun hrt x hx h _ => itR_fit (one_fit (hf x hx) h st px (rule_right hrt).1) _ (Nat.le_refl _))
theorem block_C {α : Type} (d : Kd α) {w : World} {B : Nat} {cells : Array Value} {t : TypeId} (hb : w.heap[B]? = some (.cells cells t (0, 0))) (xs : List α) (hl : xs.length ≤ 9223372036854775807)
  (hk : ∀ (j : Nat) (p : α), xs[j]? = some p → ∃ c, c.length = d.sz ∧ d.K w p c ∧ ∀ (i : Nat) u, c[i]? = some u → cells[j * d.sz + i]? = some u) : Kd.C d w (some ⟨B, 0, none⟩) xs.length xs := by
 refine ⟨rfl, hl, fun _ => ⟨⟨B, 0, none⟩, rfl, fun j p hp => ?_⟩⟩
 obtain ⟨c, h1, h2, h3⟩ := hk j p hp
 refine ⟨c, h1, h2, fun i u hu => ?_⟩
 rw [← h3 i u hu, add_at, Nat.zero_add]
 exact blk_cell hb _
def exRule : Ru := ⟨false, ⟨#[42, 42, 46, 111]⟩⟩
def exItem (n : ByteArray) : It := ⟨⟨1, n, ⟨#[]⟩, 0, 0, 0, 0, ⟨0, 0⟩, ⟨#[]⟩, ⟨#[]⟩, 0, 0, []⟩, []⟩
def exA : It := exItem ⟨#[97, 47, 98, 46, 99]⟩
def exB : It := exItem ⟨#[97, 47, 98, 46, 111]⟩
theorem ex_name : namL 1 ⟨#[]⟩ ⟨#[97, 47, 98, 46, 99]⟩ = ⟨#[98, 46, 99]⟩ := ext_data (by decide +kernel)
theorem ex_one : oneX 1 ⟨#[]⟩ exA = exItem ⟨#[98, 46, 99]⟩ := by
 unfold oneX exA exItem
 dsimp only
 rw [ex_name]
 rfl
theorem ex_items : itemsP true [exRule] 1 ⟨#[]⟩ [exA, exB] = ([exItem ⟨#[98, 46, 99]⟩], 0) := by
 have h1 : rightP [exRule] 1 ⟨#[]⟩ = true := by decide +kernel
 have h2 : [exA, exB].all rightI = true := by decide +kernel
 have h3 : (takenL true [exRule] exA.f0.f1 && oneOk 1 exA) = true := by decide +kernel
 have h4 : (takenL true [exRule] exB.f0.f1 && oneOk 1 exB) = false := by decide +kernel
 have h5 : rightI (exItem ⟨#[98, 46, 99]⟩) = true := by decide +kernel
 unfold itemsP itemsV
 rw [h1, h2]
 simp only [itemsM, h3, h4, ex_one, h5]
 rfl
theorem ex_fit : ∀ x ∈ [exA, exB], Fit x := by
 intro x hx
 simp only [List.mem_cons, List.not_mem_nil, or_false] at hx
 rcases hx with rfl | rfl <;> exact ⟨by decide +kernel, by decide +kernel, by decide +kernel, by decide +kernel, by decide, by decide, fun p hp => (by cases hp)⟩
end Go.Proofs.YtejdmofljifkbaaGreatDoor.P
namespace Go.Proofs.YtejdmofljifkbaaGreatDoor.P
open Go.RowKit Go.Shelf Go.Proofs.YtejdmofljifkbaaGreatDoorW.PrintWords Go.Proofs.YtejdmofljifkbaaGreatDoorW.PrintLast Go.Proofs.YtejdmofljifkbaaGreatDoorW.PrintMore
set_option linter.unusedVariables false
attribute [local go_sem] Oper.semAt_some
theorem nil_C {α : Type} (d : Kd α) (w : World) : Kd.C d w none 0 [] := ⟨rfl, by decide, fun h => absurd h (by decide)⟩
theorem ex_rules {w : World} {B : Nat} (hb : w.heap[B]? = some (.cells #[.bool false, .string ⟨#[42, 42, 46, 111]⟩] 45 (0, 0))) : Kd.C k45 w (some ⟨B, 0, none⟩) 1 [exRule] :=
 block_C k45 hb [exRule] (by decide) (fun j p hp => by
  cases j with
  | succ j => simp at hp
  | zero =>
   obtain rfl : exRule = p := by simpa using hp
   refine ⟨_, rfl, k45_mk w exRule, fun i u hu => ?_⟩
   match i, hu with
   | 0, hu => exact hu
   | 1, hu => exact hu
   | i + 2, hu => cases hu)
theorem ex_rows {w : World} {B : Nat} (hb : w.heap[B]? = some (.cells #[.int .i64 1, .string ⟨#[97, 47, 98, 46, 99]⟩, .string ⟨#[]⟩, .int .i64 0, .int .i64 0, .int .i64 0, .int .i64 0, .int .i64 0, .int .i64 0, .string ⟨#[]⟩, .string ⟨#[]⟩, .int .i64 0, .int .i64 0, .slice none 0 0, .slice none 0 0, .int .i64 1, .string ⟨#[97, 47, 98, 46, 111]⟩, .string ⟨#[]⟩, .int .i64 0, .int .i64 0, .int .i64 0, .int .i64 0, .int .i64 0, .int .i64 0, .string ⟨#[]⟩, .string ⟨#[]⟩, .int .i64 0, .int .i64 0, .slice none 0 0, .slice none 0 0] 29 (0, 0))) : Kd.C k29 w (some ⟨B, 0, none⟩) 2 [exA, exB] :=
 block_C k29 hb [exA, exB] (by decide) (fun j p hp => by
  match j, hp with
  | 0, hp =>
   obtain rfl : exA = p := by simpa using hp
   refine ⟨[.int .i64 1, .string ⟨#[97, 47, 98, 46, 99]⟩, .string ⟨#[]⟩, .int .i64 0, .int .i64 0, .int .i64 0, .int .i64 0, .int .i64 0, .int .i64 0, .string ⟨#[]⟩, .string ⟨#[]⟩, .int .i64 0, .int .i64 0, .slice none 0 0, .slice none 0 0], rfl, k29_mk w exA (A13 := none) (c13 := 0) (A14 := none) (c14 := 0) (Nat.le_refl _) (nil_C _ w) (Nat.le_refl _) (nil_C _ w), fun i u hu => ?_⟩
   have hi := (List.getElem?_eq_some_iff.1 hu).1
   rw [← hu, show (0 * k29.sz + i) = i from by rw [Nat.zero_mul, Nat.zero_add], ← Array.getElem?_toList]
   exact (List.getElem?_append_left (l₂ := ([.int .i64 1, .string ⟨#[97, 47, 98, 46, 111]⟩, .string ⟨#[]⟩, .int .i64 0, .int .i64 0, .int .i64 0, .int .i64 0, .int .i64 0, .int .i64 0, .string ⟨#[]⟩, .string ⟨#[]⟩, .int .i64 0, .int .i64 0, .slice none 0 0, .slice none 0 0] : List Value)) hi)
  | 1, hp =>
   obtain rfl : exB = p := by simpa using hp
   refine ⟨[.int .i64 1, .string ⟨#[97, 47, 98, 46, 111]⟩, .string ⟨#[]⟩, .int .i64 0, .int .i64 0, .int .i64 0, .int .i64 0, .int .i64 0, .int .i64 0, .string ⟨#[]⟩, .string ⟨#[]⟩, .int .i64 0, .int .i64 0, .slice none 0 0, .slice none 0 0], rfl, k29_mk w exB (A13 := none) (c13 := 0) (A14 := none) (c14 := 0) (Nat.le_refl _) (nil_C _ w) (Nat.le_refl _) (nil_C _ w), fun i u hu => ?_⟩
   rw [← hu, show (1 * k29.sz + i) = 15 + i from by rw [Nat.one_mul]; rfl, ← Array.getElem?_toList]
   exact (List.getElem?_append_right (l₁ := ([.int .i64 1, .string ⟨#[97, 47, 98, 46, 99]⟩, .string ⟨#[]⟩, .int .i64 0, .int .i64 0, .int .i64 0, .int .i64 0, .int .i64 0, .int .i64 0, .string ⟨#[]⟩, .string ⟨#[]⟩, .int .i64 0, .int .i64 0, .slice none 0 0, .slice none 0 0] : List Value)) (i := 15 + i) (by simp)).trans (by simp)
  | j + 2, hp => simp at hp)
set_option maxRecDepth 100000 in
set_option maxHeartbeats 6400000 in
theorem alive_calls (w : World) (hG : Glob w) : Calls Tryz.prog 12 #[] w fun e w' => e = .returned (.bool true) ∧ Below w.heap.size w w' := by
 have hu1 := Tryz.underlying43
 have hu2 := Tryz.underlying45
 have hu3 := Tryz.underlying29
 have hu4 := Tryz.underlying26
 have HG := Lib.hid hG
 clear hG
 go_enter Tryz.func12, Tryz.ntmps12
 go_wp2_with fail
 have hW : Below w.heap.size w ((w.alloc (.cells #[.bool false, .string ⟨#[42, 42, 46, 111]⟩] 45)).alloc (.cells #[.int .i64 1, .string ⟨#[97, 47, 98, 46, 99]⟩, .string ⟨#[]⟩, .int .i64 0, .int .i64 0, .int .i64 0, .int .i64 0, .int .i64 0, .int .i64 0, .string ⟨#[]⟩, .string ⟨#[]⟩, .int .i64 0, .int .i64 0, .slice none 0 0, .slice none 0 0, .int .i64 1, .string ⟨#[97, 47, 98, 46, 111]⟩, .string ⟨#[]⟩, .int .i64 0, .int .i64 0, .int .i64 0, .int .i64 0, .int .i64 0, .int .i64 0, .string ⟨#[]⟩, .string ⟨#[]⟩, .int .i64 0, .int .i64 0, .slice none 0 0, .slice none 0 0] 29)) := ((Below.refl _ w).alloc (Nat.le_refl _) _).alloc (by simp) _
 have b1 := heap_alloc_new (w.alloc (.cells #[.bool false, .string ⟨#[42, 42, 46, 111]⟩] 45)) (.cells #[.int .i64 1, .string ⟨#[97, 47, 98, 46, 99]⟩, .string ⟨#[]⟩, .int .i64 0, .int .i64 0, .int .i64 0, .int .i64 0, .int .i64 0, .int .i64 0, .string ⟨#[]⟩, .string ⟨#[]⟩, .int .i64 0, .int .i64 0, .slice none 0 0, .slice none 0 0, .int .i64 1, .string ⟨#[97, 47, 98, 46, 111]⟩, .string ⟨#[]⟩, .int .i64 0, .int .i64 0, .int .i64 0, .int .i64 0, .int .i64 0, .int .i64 0, .string ⟨#[]⟩, .string ⟨#[]⟩, .int .i64 0, .int .i64 0, .slice none 0 0, .slice none 0 0] 29)
 have b0 := (Below.heap_alloc (w.alloc (.cells #[.bool false, .string ⟨#[42, 42, 46, 111]⟩] 45)) (.cells #[.int .i64 1, .string ⟨#[97, 47, 98, 46, 99]⟩, .string ⟨#[]⟩, .int .i64 0, .int .i64 0, .int .i64 0, .int .i64 0, .int .i64 0, .int .i64 0, .string ⟨#[]⟩, .string ⟨#[]⟩, .int .i64 0, .int .i64 0, .slice none 0 0, .slice none 0 0, .int .i64 1, .string ⟨#[97, 47, 98, 46, 111]⟩, .string ⟨#[]⟩, .int .i64 0, .int .i64 0, .int .i64 0, .int .i64 0, .int .i64 0, .int .i64 0, .string ⟨#[]⟩, .string ⟨#[]⟩, .int .i64 0, .int .i64 0, .slice none 0 0, .slice none 0 0] 29) w.heap.size (by simp)).trans (heap_alloc_new w (.cells #[.bool false, .string ⟨#[42, 42, 46, 111]⟩] 45))
 rw [World.size_alloc] at b1
 refine (items_fit true (some ⟨w.heap.size, 0, none⟩) 1 [exRule] 1 ⟨#[]⟩ _ (ex_rules b0) (Nat.le_refl _) (by decide) (fun r hr => by rw [List.mem_singleton] at hr; subst hr; decide) (by decide) (some ⟨w.heap.size + 1, 0, none⟩) 2 [exA, exB] (ex_rows b1) (by decide) (Glob.below HG.out hW) ex_fit).mono ?_
 rw [ex_items]
 rintro e w2 ⟨v, rfl, hR, hb⟩
 have HB := Lib.hid (below_step hW hb)
 clear hb hW b0 b1
 obtain ⟨A, c, rfl, hc, hC⟩ := Kd.R_reads hR
 obtain ⟨ad, A13, c13, A14, c14, rfl, _, k1, _⟩ := at_T29 hC 0 (by decide) (by decide)
 have hn : (rd_T29 [exItem ⟨#[98, 46, 99]⟩] 0).f0.f1 = ⟨#[98, 46, 99]⟩ := rfl
 rw [hn, show Int.toNat 0 * 15 = 0 from rfl] at k1
 have k2 : w2.cell? ⟨ad.block, ad.off + 1, none⟩ = some (.string ⟨#[98, 46, 99]⟩) := by
  have e : ad.add 0 = ad := by
   unfold Addr.add
   split <;> simp_all
  rw [e] at k1
  exact k1
 clear hR hC hn hc
 go_wp2
 go_ret
 exact ⟨rfl, HB.out⟩
end Go.Proofs.YtejdmofljifkbaaGreatDoor.P
namespace Go.Proofs.YtejdmofljifkbaaGreatDoor.Gl
open Go.RowKit
end Go.Proofs.YtejdmofljifkbaaGreatDoor.Gl
namespace Go.Proofs.YtejdmofljifkbaaGreatDoor.P
open Go.RowKit Go.Shelf Go.Proofs.YtejdmofljifkbaaGreatDoorW.PrintWords Go.Proofs.YtejdmofljifkbaaGreatDoorW.PrintLast Go.Proofs.YtejdmofljifkbaaGreatDoorW.PrintMore
set_option linter.unusedVariables false
attribute [local go_sem] Oper.semAt_some
theorem nam_self (s : ByteArray) : namL 0 ⟨#[]⟩ s = s ∧ namOk 0 s = true := by
 have h : decide ((0 : Int) < 0) = false := by decide
 unfold namL namOk preL
 have he : (⟨#[]⟩ : ByteArray).toList.isEmpty = true := by rw [Lib.toList_data]; rfl
 rw [h, he]
 exact ⟨rfl, rfl⟩
theorem one_self (x : It) : oneX 0 ⟨#[]⟩ x = x ∧ oneOk 0 x = true := by
 unfold oneX oneOk
 rw [(nam_self x.f0.f1).1, (nam_self x.f0.f2).1, (nam_self x.f0.f1).2, (nam_self x.f0.f2).2]
 simp
theorem itemsM_take (tk : It → Bool) (on : It → It) (p : It → Bool) (hon : ∀ x, on x = x) : ∀ (l acc : List It), (∀ x ∈ l, p x = true) → itemsM tk on p l acc = some (acc ++ l.filter tk)
 | [], acc, _ => by simp [itemsM]
 | x :: t, acc, h => by
  simp only [itemsM]
  rw [hon x, h x List.mem_cons_self]
  cases htk : tk x with
  | true =>
   rw [if_pos rfl, if_pos rfl, itemsM_take tk on p hon t _ (fun y hy => h y (List.mem_cons_of_mem _ hy)), List.filter_cons, if_pos htk, List.append_assoc]
   rfl
  | false =>
   rw [if_neg (by decide), itemsM_take tk on p hon t _ (fun y hy => h y (List.mem_cons_of_mem _ hy)), List.filter_cons, if_neg (by rw [htk]; decide)]
theorem items_take (all : Bool) (rs : List Ru) (l : List It) (hrt : rightP rs 0 ⟨#[]⟩ = true) (h : ∀ x ∈ l, rightI x = true) : itemsP all rs 0 ⟨#[]⟩ l = (l.filter (fun x => takenL all rs x.f0.f1), 0) := by
 unfold itemsP itemsV
 rw [hrt, List.all_eq_true.2 h, itemsM_take _ _ rightI (fun x => (one_self x).1) l [] h]
 simp only [Bool.and_self, if_true, itemsR, List.nil_append]
 congr 2
 funext x
 rw [(one_self x).2, Bool.and_true]
end Go.Proofs.YtejdmofljifkbaaGreatDoor.P
namespace Go.Proofs.YtejdmofljifkbaaGreatDoor.P
open Go.RowKit Go.Shelf Go.Proofs.YtejdmofljifkbaaGreatDoorW.PrintWords Go.Proofs.YtejdmofljifkbaaGreatDoorW.PrintLast Go.Proofs.YtejdmofljifkbaaGreatDoorW.PrintMore
set_option linter.unusedVariables false
attribute [local go_sem] Oper.semAt_some
end Go.Proofs.YtejdmofljifkbaaGreatDoor.P
namespace Go.Proofs.YtejdmofljifkbaaGreatDoor.P
open Go.RowKit Go.Shelf Go.Sort Go.Proofs.YtejdmofljifkbaaGreatDoorW.PrintWords Go.Proofs.YtejdmofljifkbaaGreatDoorW.PrintLast Go.Proofs.YtejdmofljifkbaaGreatDoorW.PrintMore
set_option linter.unusedVariables false
attribute [local go_sem] Oper.semAt_some
set_option maxRecDepth 100000 in
set_option maxHeartbeats 12800000 in
theorem pickTwice_true (allp : Bool) (Ap : Option Addr) (capp : Nat) (rsp : List Ru) (stp : Int) (pxp : ByteArray) (allq : Bool) (Aq : Option Addr) (capq : Nat) (rsq : List Ru) (stq : Int) (pxq : ByteArray) (A0 : Option Addr) (c0 : Nat) (l0 : List It) (w : World) (hrp : Kd.C k45 w Ap rsp.length rsp) (hcp : rsp.length ≤ capp) (hrq : Kd.C k45 w Aq rsq.length rsq) (hcq : rsq.length ≤ capq) (hr0 : Kd.C k29 w A0 l0.length l0) (hc0 : l0.length ≤ c0) (hl : l0.length ≤ 2000000) (hf : ∀ x ∈ l0, Fit x) (hG : Glob w) :
  Calls Tryz.prog 6 #[.agg #[.bool allp, .slice Ap rsp.length capp, .int .i64 stp, .string pxp], .agg #[.bool allq, .slice Aq rsq.length capq, .int .i64 stq, .string pxq], .slice A0 l0.length c0] w fun e w' => e = .returned (.bool true) ∧ Below w.heap.size w w' := by
 have hu1 := Tryz.underlying43
 have hu2 := Tryz.underlying29
 have hu3 := Tryz.underlying26
 have HRP := Lib.hid hrp
 have HRQ := Lib.hid hrq
 have HCP := Lib.hid hcp
 have HCQ := Lib.hid hcq
 have HR0 := Lib.hid hr0
 have HC0 := Lib.hid hc0
 have HL := Lib.hid hl
 have HF := Lib.hid hf
 have HG := Lib.hid hG
 have HFP := Lib.hid (fun W (hB : Below w.heap.size w W) => far_calls allp Ap capp rsp 0 ⟨#[]⟩ W (Kd.C_below hrp hB) A0 c0 l0 (Kd.C_below hr0 hB) hc0 hl (fun x hx => (hf x hx).hl))
 have HFQ := Lib.hid (fun W (hB : Below w.heap.size w W) => far_calls allq Aq capq rsq 0 ⟨#[]⟩ W (Kd.C_below hrq hB) A0 c0 l0 (Kd.C_below hr0 hB) hc0 hl (fun x hx => (hf x hx).hl))
 have HB0 := Lib.hid (((Below.refl w.heap.size w).alloc (Nat.le_refl _) (.cells #[.bool allp, .slice Ap rsp.length capp, .int .i64 stp, .string pxp] 43)).alloc (by simp) (.cells #[.bool allq, .slice Aq rsq.length capq, .int .i64 stq, .string pxq] 43))
 have BP0 := Lib.hid ((Below.heap_alloc (w.alloc (.cells #[.bool allp, .slice Ap rsp.length capp, .int .i64 stp, .string pxp] 43)) (.cells #[.bool allq, .slice Aq rsq.length capq, .int .i64 stq, .string pxq] 43) w.heap.size (by simp)).trans (heap_alloc_new w (.cells #[.bool allp, .slice Ap rsp.length capp, .int .i64 stp, .string pxp] 43)))
 have bq := heap_alloc_new (w.alloc (.cells #[.bool allp, .slice Ap rsp.length capp, .int .i64 stp, .string pxp] 43)) (.cells #[.bool allq, .slice Aq rsq.length capq, .int .i64 stq, .string pxq] 43)
 rw [World.size_alloc] at bq
 have BQ0 := Lib.hid bq
 clear hrp hrq hcp hcq hr0 hc0 hl hf hG bq
 go_enter Tryz.func6, Tryz.ntmps6
 go_wp2_with fail
 refine (alive_calls _ (Glob.below HG.out HB0.out)).mono ?_
 rintro e w1 ⟨rfl, hb⟩
 have HB1 := Lib.hid (below_step HB0.out hb)
 have BP1 := Lib.hid ((hb.block _ (by first | (simp; done) | (simp; omega))).trans BP0.out)
 have BQ1 := Lib.hid ((hb.block _ (by first | (simp; done) | (simp; omega))).trans BQ0.out)
 clear hb HB0 BP0 BQ0
 have cp0 : w1.cell? ⟨w.heap.size, 0, none⟩ = some (.bool allp) := (blk_cell BP1.out 0).trans rfl
 have cp1 : w1.cell? ⟨w.heap.size, 1, none⟩ = some (.slice Ap rsp.length capp) := (blk_cell BP1.out 1).trans rfl
 have cp2 : w1.cell? ⟨w.heap.size, 2, none⟩ = some (.int .i64 stp) := (blk_cell BP1.out 2).trans rfl
 have cp3 : w1.cell? ⟨w.heap.size, 3, none⟩ = some (.string pxp) := (blk_cell BP1.out 3).trans rfl
 have cq2 : w1.cell? ⟨w.heap.size + 1, 2, none⟩ = some (.int .i64 stq) := (blk_cell BQ1.out 2).trans rfl
 have cq3 : w1.cell? ⟨w.heap.size + 1, 3, none⟩ = some (.string pxq) := (blk_cell BQ1.out 3).trans rfl
 have fp2 := blk_frozen BP1.out 2
 have fp3 := blk_frozen BP1.out 3
 have fq2 := blk_frozen BQ1.out 2
 have fq3 := blk_frozen BQ1.out 3
 go_wp2_with fail
 have HB5 : Below w.heap.size w ((((w1.setCell ⟨w.heap.size, 2, none⟩ (.int .i64 0)).setCell ⟨w.heap.size + 1, 2, none⟩ (.int .i64 0)).setCell ⟨w.heap.size, 3, none⟩ (.string ⟨#[]⟩)).setCell ⟨w.heap.size + 1, 3, none⟩ (.string ⟨#[]⟩)) :=
  below_set (below_set (below_set (below_set HB1.out (Nat.le_refl _)) (Nat.le_succ _)) (Nat.le_refl _)) (Nat.le_succ _)
 have bp5 := blk_far (p := ⟨w.heap.size + 1, 3, none⟩) (blk_put (cs' := #[.bool allp, .slice Ap rsp.length capp, .int .i64 0, .string ⟨#[]⟩]) (blk_far (p := ⟨w.heap.size + 1, 2, none⟩) (blk_put (cs' := #[.bool allp, .slice Ap rsp.length capp, .int .i64 0, .string pxp]) BP1.out 2 (.int .i64 0) rfl) (Nat.ne_of_lt (Nat.lt_succ_self _)) (.int .i64 0)) 3 (.string ⟨#[]⟩) rfl) (Nat.ne_of_lt (Nat.lt_succ_self _)) (.string ⟨#[]⟩)
 have bq5 := blk_put (cs' := #[.bool allq, .slice Aq rsq.length capq, .int .i64 0, .string ⟨#[]⟩]) (blk_far (p := ⟨w.heap.size, 3, none⟩) (blk_put (cs' := #[.bool allq, .slice Aq rsq.length capq, .int .i64 0, .string pxq]) (blk_far (p := ⟨w.heap.size, 2, none⟩) BQ1.out (Nat.ne_of_gt (Nat.lt_succ_self _)) (.int .i64 0)) 2 (.int .i64 0) rfl) (Nat.ne_of_gt (Nat.lt_succ_self _)) (.string ⟨#[]⟩)) 3 (.string ⟨#[]⟩) rfl
 refine (HFP.out _ HB5).mono ?_
 rintro e w6 ⟨b, rfl, hnear, hb⟩
 have HB6 := Lib.hid (below_step HB5 hb)
 have BP6 := Lib.hid (blk_below bp5 hb)
 have BQ6 := Lib.hid (blk_below bq5 hb)
 have NP := Lib.hid hnear
 clear hb hnear HFP HB1 HB5 bp5 bq5 BP1 BQ1 cp0 cp1 cp2 cp3 cq2 cq3 fp2 fp3 fq2 fq3
 cases b with
 | true =>
  go_wp2
  go_ret
  exact ⟨rfl, HB6.out⟩
 | false =>
  have NP2 := Lib.hid (NP.out rfl)
  clear NP
  have d0 : w6.cell? ⟨w.heap.size + 1, 0, none⟩ = some (.bool allq) := (blk_cell BQ6.out 0).trans rfl
  have d1 : w6.cell? ⟨w.heap.size + 1, 1, none⟩ = some (.slice Aq rsq.length capq) := (blk_cell BQ6.out 1).trans rfl
  have d2 : w6.cell? ⟨w.heap.size + 1, 2, none⟩ = some (.int .i64 0) := (blk_cell BQ6.out 2).trans rfl
  have d3 : w6.cell? ⟨w.heap.size + 1, 3, none⟩ = some (.string ⟨#[]⟩) := (blk_cell BQ6.out 3).trans rfl
  go_wp2_with fail
  refine (HFQ.out _ HB6.out).mono ?_
  rintro e w7 ⟨b, rfl, hnear, hb⟩
  have HB7 := Lib.hid (below_step HB6.out hb)
  have BP7 := Lib.hid (blk_below BP6.out hb)
  have BQ7 := Lib.hid (blk_below BQ6.out hb)
  have NQ := Lib.hid hnear
  clear hb hnear HFQ HB6 BP6 BQ6 d0 d1 d2 d3
  cases b with
  | true =>
   go_wp2
   go_ret
   exact ⟨rfl, HB7.out⟩
  | false =>
   have hnp := NP2.out
   have hnq := NQ.out rfl
   have ZP := Lib.hid (show rsp.length ≤ 1000000 ∧ ∀ r ∈ rsp, r.f1.size ≤ 1000 from ⟨by have := hnp.1; omega, fun r hr => by have := (hnp.2.2 r hr).1; omega⟩)
   have ZQ := Lib.hid (show rsq.length ≤ 1000000 ∧ ∀ r ∈ rsq, r.f1.size ≤ 1000 from ⟨by have := hnq.1; omega, fun r hr => by have := (hnq.2.2 r hr).1; omega⟩)
   clear hnp hnq NP2 NQ
   have d0 : w7.cell? ⟨w.heap.size, 0, none⟩ = some (.bool allp) := (blk_cell BP7.out 0).trans rfl
   have d1 : w7.cell? ⟨w.heap.size, 1, none⟩ = some (.slice Ap rsp.length capp) := (blk_cell BP7.out 1).trans rfl
   have d2 : w7.cell? ⟨w.heap.size, 2, none⟩ = some (.int .i64 0) := (blk_cell BP7.out 2).trans rfl
   have d3 : w7.cell? ⟨w.heap.size, 3, none⟩ = some (.string ⟨#[]⟩) := (blk_cell BP7.out 3).trans rfl
   go_wp2_with fail
   refine (pright_calls allp Ap capp rsp 0 ⟨#[]⟩ _ (Kd.C_below HRP.out HB7.out) HCP.out ZP.out.1 ZP.out.2 (by decide)).mono ?_
   rintro e w8 ⟨rfl, hb⟩
   have HB8 := Lib.hid (below_step HB7.out hb)
   have BP8 := Lib.hid (blk_below BP7.out hb)
   have BQ8 := Lib.hid (blk_below BQ7.out hb)
   clear hb HB7 BP7 BQ7 d0 d1 d2 d3
   cases hRP : rightP rsp 0 ⟨#[]⟩ with
   | false =>
    go_wp2
    go_ret
    exact ⟨rfl, HB8.out⟩
   | true =>
    have RP := Lib.hid hRP
    clear hRP
    have d0 : w8.cell? ⟨w.heap.size + 1, 0, none⟩ = some (.bool allq) := (blk_cell BQ8.out 0).trans rfl
    have d1 : w8.cell? ⟨w.heap.size + 1, 1, none⟩ = some (.slice Aq rsq.length capq) := (blk_cell BQ8.out 1).trans rfl
    have d2 : w8.cell? ⟨w.heap.size + 1, 2, none⟩ = some (.int .i64 0) := (blk_cell BQ8.out 2).trans rfl
    have d3 : w8.cell? ⟨w.heap.size + 1, 3, none⟩ = some (.string ⟨#[]⟩) := (blk_cell BQ8.out 3).trans rfl
    go_wp2_with fail
    refine (pright_calls allq Aq capq rsq 0 ⟨#[]⟩ _ (Kd.C_below HRQ.out HB8.out) HCQ.out ZQ.out.1 ZQ.out.2 (by decide)).mono ?_
    rintro e w9 ⟨rfl, hb⟩
    have HB9 := Lib.hid (below_step HB8.out hb)
    have BP9 := Lib.hid (blk_below BP8.out hb)
    have BQ9 := Lib.hid (blk_below BQ8.out hb)
    clear hb HB8 BP8 BQ8 d0 d1 d2 d3
    cases hRQ : rightP rsq 0 ⟨#[]⟩ with
    | false =>
     go_wp2
     go_ret
     exact ⟨rfl, HB9.out⟩
    | true =>
     have RQ := Lib.hid hRQ
     clear hRQ
     go_wp2_with fail
     go_loopg [7] (l0.length) (fun gk v7 wr => ∃ (x : Int), v7 = .int .i64 x ∧ Aside0 (∃ n : Nat, x = (n : Int) ∧ n + gk = l0.length ∧ ∀ x ∈ l0.take n, rightI x = true) ∧ Aside0 (wr.heap[w.heap.size]? = some (.cells #[.bool allp, .slice Ap rsp.length capp, .int .i64 0, .string ⟨#[]⟩] 43 (0, 0))) ∧ Aside0 (wr.heap[w.heap.size + 1]? = some (.cells #[.bool allq, .slice Aq rsq.length capq, .int .i64 0, .string ⟨#[]⟩] 43 (0, 0))) ∧ Aside0 (Below w.heap.size w wr))
     case atStart => exact ⟨0, rfl, ⟨0, rfl, by omega, by simp⟩, ⟨BP9.out⟩, ⟨BQ9.out⟩, ⟨HB9.out⟩⟩
     case round =>
      clear HB9 BP9 BQ9
      obtain ⟨x, rfl, HN, BP, BQ, HB⟩ := hrel
      obtain ⟨n, hx, hn, hk⟩ := HN.out
      cases gk with
      | succ k =>
       have hi : n < l0.length := by omega
       have h0 : (0 : Int) ≤ x := by omega
       have h1 : x < (l0.length : Int) := by omega
       have hlt : decide (x < (l0.length : Int)) = true := decide_eq_true h1
       obtain ⟨ad, cs, rfl, hsz, hK, hc⟩ := elem_C (Kd.C_below HR0.out HB.out) x h0 h1
       have hget : l0.take (n + 1) = l0.take n ++ [rd_T29 l0 x] := by
        rw [List.take_succ_eq_append_getElem hi]
        congr 2
        unfold rd_T29
        rw [hx, Int.toNat_natCast, List.getD_eq_getElem?_getD, List.getElem?_eq_getElem hi]
        rfl
       have hft := HF.out _ (show rd_T29 l0 x ∈ l0 from List.mem_of_mem_take (by rw [hget]; simp))
       have hw : wrap64 (x + 1) = ((n + 1 : Nat) : Int) := by
        have := HL.out
        rw [hx, show (n : Int) + 1 = ((n + 1 : Nat) : Int) by omega, w64n _ (by omega)]
       have HW := Lib.hid hw
       have HNN := Lib.hid hn
       have HSZ := Lib.hid hsz
       have HCC := Lib.hid hc
       have HKK := Lib.hid hk
       have HGET := Lib.hid hget
       have HRT := Lib.hid (qright_calls 2000000000000 _ cs _ wr hK (itQ_fit hft _ (Nat.le_refl _)))
       generalize rd_T29 l0 x = X at *
       clear hget hw hx hn hk hi HN hsz hc hK hft
       replace h0 := eq_true h0
       replace h1 := eq_true h1
       go_wp2_with ((with_reducible refine wpList_load_elem rfl 29 (.tmp 50) rfl (ad.add (x.toNat * 15)) rfl cs HCC.out _ Tryz.underlying29 rfl HSZ.out ?_))
       refine HRT.out.mono ?_
       rintro e w3 ⟨rfl, hb⟩
       have HB3 := Lib.hid (below_step HB.out hb)
       have BP3 := Lib.hid (blk_below BP.out hb)
       have BQ3 := Lib.hid (blk_below BQ.out hb)
       clear hb HRT HCC HSZ
       cases hpX : rightI X with
       | false =>
        go_wp2
        go_ret
        exact ⟨rfl, HB3.out⟩
       | true =>
        have HK2 := Lib.hid (show ∀ x ∈ l0.take (n + 1), rightI x = true from by
         rw [HGET.out]
         intro y hy
         rcases List.mem_append.1 hy with h | h
         ·exact HKK.out y h
         ·rw [List.mem_singleton] at h
          subst h
          exact hpX)
        clear hpX HKK
        go_wp2
        go_roundg k
        case measure => omega
        case rel => exact ⟨_, rfl, ⟨n + 1, HW.out, by have := HNN.out; omega, HK2.out⟩, ⟨BP3.out⟩, ⟨BQ3.out⟩, ⟨HB3.out⟩⟩
      | zero =>
       have hlt : decide (x < (l0.length : Int)) = false := decide_eq_false (by omega)
       have HALL := Lib.hid (show ∀ x ∈ l0, rightI x = true from by rwa [List.take_of_length_le (by omega)] at hk)
       clear hx hn hk HN
       obtain ⟨l1, hl1⟩ : ∃ l1, l0.filter (fun x => takenL allp rsp x.f0.f1) = l1 := ⟨_, rfl⟩
       have HM1 := Lib.hid (show ∀ x ∈ l1, x ∈ l0 from fun x hx => by rw [← hl1] at hx; exact (List.mem_filter.1 hx).1)
       have HL1 := Lib.hid (show l1.length ≤ 2000000 from by have := List.length_filter_le (fun x => takenL allp rsp x.f0.f1) l0; rw [hl1] at this; have := HL.out; omega)
       have T1 := Lib.hid (show itemsP allp rsp 0 ⟨#[]⟩ l0 = (l1, 0) from by rw [items_take allp rsp l0 RP.out HALL.out, hl1])
       obtain ⟨l2, hl2⟩ : ∃ l2, l1.filter (fun x => takenL allq rsq x.f0.f1) = l2 := ⟨_, rfl⟩
       have T2 := Lib.hid (show itemsP allq rsq 0 ⟨#[]⟩ l1 = (l2, 0) from by rw [items_take allq rsq l1 RQ.out (fun x hx => HALL.out x (HM1.out x hx)), hl2])
       have HL2 := Lib.hid (show l2 = l0.filter (fun x => takenL allp rsp x.f0.f1 && takenL allq rsq x.f0.f1) from by
        rw [← hl2, ← hl1, List.filter_filter]
        congr 1
        funext x
        exact Bool.and_comm _ _)
       have HS := Lib.hid (show l2.length ≤ 2000000 ∧ ∀ x ∈ l2, x.f0.f12.length ≤ 2097152 from ⟨by have h2 := List.length_filter_le (fun x => takenL allq rsq x.f0.f1) l1; rw [hl2] at h2; have := HL1.out; omega, fun x hx => by
        rw [← hl2] at hx
        have := (HF.out x (HM1.out x (List.mem_filter.1 hx).1)).hl
        omega⟩)
       clear hl1 hl2
       go_wp2_with ((with_reducible refine wpList_load_blk rfl 43 (.tmp 3) rfl w.heap.size rfl BP.out _ Tryz.underlying43 rfl (by kernel_rfl) ?_))
       refine (items_fit allp Ap capp rsp 0 ⟨#[]⟩ _ (Kd.C_below HRP.out HB.out) HCP.out ZP.out.1 ZP.out.2 (by decide) A0 c0 l0 (Kd.C_below HR0.out HB.out) HL.out (Glob.below HG.out HB.out) HF.out).mono ?_
       rw [T1.out]
       rintro e w4 ⟨v4, rfl, hR4, hb⟩
       obtain ⟨A4, c4, rfl, hc4, hC4⟩ := Kd.R_reads hR4
       have HB4 := Lib.hid (below_step HB.out hb)
       have BP4 := Lib.hid (blk_below BP.out hb)
       have BQ4 := Lib.hid (blk_below BQ.out hb)
       have HC4 := Lib.hid hC4
       clear hb hR4 hC4 hc4 HB BP BQ
       dsimp only at HC4 ⊢
       go_wp2_with ((with_reducible refine wpList_load_blk rfl 43 (.tmp 4) rfl (w.heap.size + 1) rfl BQ4.out _ Tryz.underlying43 rfl (by kernel_rfl) ?_))
       refine (items_fit allq Aq capq rsq 0 ⟨#[]⟩ _ (Kd.C_below HRQ.out HB4.out) HCQ.out ZQ.out.1 ZQ.out.2 (by decide) A4 c4 l1 HC4.out HL1.out (Glob.below HG.out HB4.out) (fun x hx => HF.out x (HM1.out x hx))).mono ?_
       rw [T2.out]
       rintro e w5 ⟨v5, rfl, hR5, hb⟩
       obtain ⟨A5, c5, rfl, hc5, hC5⟩ := Kd.R_reads hR5
       have HB5 := Lib.hid (below_step HB4.out hb)
       have BP5 := Lib.hid (blk_below BP4.out hb)
       have BQ5 := Lib.hid (blk_below BQ4.out hb)
       have HC5 := Lib.hid hC5
       have HE5 := Lib.hid hc5
       clear hb hR5 hC5 hc5 HB4 BP4 BQ4 HC4 T1 T2
       dsimp only at HC5 HE5 ⊢
       go_wp2_with fail
       go_loopg [12, 13] (l0.length) (fun gk v12 v13 wr => ∃ (x : Int) (acc : List It), v13 = .int .i64 x ∧ Aside0 (∃ n : Nat, x = (n : Int) ∧ n + gk = l0.length ∧ acc = (l0.take n).filter (fun x => takenL allp rsp x.f0.f1 && takenL allq rsq x.f0.f1)) ∧ Aside0 (Kd.R (heldK w) 29 wr w5.heap.size (fun _ => True) v12 acc) ∧ Aside0 (wr.heap[w.heap.size]? = some (.cells #[.bool allp, .slice Ap rsp.length capp, .int .i64 0, .string ⟨#[]⟩] 43 (0, 0))) ∧ Aside0 (wr.heap[w.heap.size + 1]? = some (.cells #[.bool allq, .slice Aq rsq.length capq, .int .i64 0, .string ⟨#[]⟩] 43 (0, 0))) ∧ Aside0 (Below w5.heap.size w5 wr))
       case atStart => exact ⟨0, [], rfl, ⟨0, rfl, by omega, by simp⟩, ⟨Kd.R_nil _ _ _ _ _⟩, ⟨BP5.out⟩, ⟨BQ5.out⟩, ⟨Below.refl _ _⟩⟩
       case round =>
        clear BP5 BQ5 hlt
        obtain ⟨x, acc, rfl, HN, HVr, BPr, BQr, H6r⟩ := hrel
        obtain ⟨n, hx, hn, hk⟩ := HN.out
        have HBr := Lib.hid (below_step HB5.out H6r.out)
        cases gk with
        | zero =>
         have hlt : decide (x < (l0.length : Int)) = false := decide_eq_false (by omega)
         have hacc : acc = l2 := by
          rw [hk, List.take_of_length_le (by omega)]
          exact HL2.out.symm
         subst hacc
         clear hx hn hk HN
         obtain ⟨A9, c9, rfl, hc9, hC9⟩ := Kd.R_reads HVr.out
         have HC9 := Lib.hid (held_C hC9 HBr.out)
         have HE9 := Lib.hid hc9
         have HC7 := Lib.hid (Kd.C_below HC5.out H6r.out)
         clear hc9 hC9
         go_wp2_with fail
         refine (all_same A5 c5 A9 c9 acc _ HC7.out HC9.out HS.out.1 HS.out.2).mono ?_
         rintro e w10 ⟨rfl, hb⟩
         have HB10 := Lib.hid (below_step HBr.out hb)
         clear hb
         go_wp2
         go_ret
         exact ⟨rfl, HB10.out⟩
        | succ k =>
         have hi : n < l0.length := by omega
         have h0 : (0 : Int) ≤ x := by omega
         have h1 : x < (l0.length : Int) := by omega
         have hlt : decide (x < (l0.length : Int)) = true := decide_eq_true h1
         obtain ⟨ad, cs, rfl, hsz, hK, hc⟩ := elem_C HR0.out x h0 h1
         obtain ⟨ad2, _, _, _, _, had, _, k1, _⟩ := at_T29 HR0.out x h0 h1
         obtain rfl : ad = ad2 := Option.some.inj had
         have hget : l0.take (n + 1) = l0.take n ++ [rd_T29 l0 x] := by
          rw [List.take_succ_eq_append_getElem hi]
          congr 2
          unfold rd_T29
          rw [hx, Int.toNat_natCast, List.getD_eq_getElem?_getD, List.getElem?_eq_getElem hi]
          rfl
         have hmem : rd_T29 l0 x ∈ l0 := List.mem_of_mem_take (by rw [hget]; simp)
         have hnm := (right_sizes (HALL.out _ hmem)).1
         have hw : wrap64 (x + 1) = ((n + 1 : Nat) : Int) := by
          have := HL.out
          rw [hx, show (n : Int) + 1 = ((n + 1 : Nat) : Int) by omega, w64n _ (by omega)]
         have HW := Lib.hid hw
         have HNN := Lib.hid hn
         have HSZ := Lib.hid hsz
         have HCC := Lib.hid hc
         have HGET := Lib.hid hget
         have KNr := Lib.hid ((HBr.out.cell (World.block_lt_of_cell? w _ k1)).trans k1)
         have HA := Lib.hid (show acc.length ≤ n from by
          rw [hk]
          have h2 := List.length_filter_le (fun x : It => takenL allp rsp x.f0.f1 && takenL allq rsq x.f0.f1) (l0.take n)
          rw [List.length_take] at h2
          omega)
         have HK := Lib.hid hk
         generalize rd_T29 l0 x = X at *
         obtain ⟨A13, c13, A14, c14, rfl, e13, g13, e14, g14⟩ := k29_open hK
         have HKX := Lib.hid hK
         obtain ⟨tp, htp⟩ : ∃ b, takenL allp rsp X.f0.f1 = b := ⟨_, rfl⟩
         obtain ⟨tq, htq⟩ : ∃ b, takenL allq rsq X.f0.f1 = b := ⟨_, rfl⟩
         have HTp := Lib.hid (fun W (hB : Below w.heap.size w W) => show Calls Tryz.prog 19 #[.agg #[.bool allp, .slice Ap rsp.length capp, .int .i64 0, .string ⟨#[]⟩], .string X.f0.f1] W fun e w' => e = .returned (.tuple #[.bool tp, .int .u8 0]) ∧ Below W.heap.size W w' from by
          have h := ptaken_calls allp Ap capp rsp 0 ⟨#[]⟩ X.f0.f1 W (Kd.C_below HRP.out hB) HCP.out ZP.out.1 ZP.out.2 (by decide) (by omega)
          rw [RP.out, htp] at h
          exact h)
         have HTq := Lib.hid (fun W (hB : Below w.heap.size w W) => show Calls Tryz.prog 19 #[.agg #[.bool allq, .slice Aq rsq.length capq, .int .i64 0, .string ⟨#[]⟩], .string X.f0.f1] W fun e w' => e = .returned (.tuple #[.bool tq, .int .u8 0]) ∧ Below W.heap.size W w' from by
          have h := ptaken_calls allq Aq capq rsq 0 ⟨#[]⟩ X.f0.f1 W (Kd.C_below HRQ.out hB) HCQ.out ZQ.out.1 ZQ.out.2 (by decide) (by omega)
          rw [RQ.out, htq] at h
          exact h)
         have HTP := Lib.hid htp
         have HTQ := Lib.hid htq
         clear hget hw hx hn hk hi HN hsz hc hK hmem hnm k1 had htp htq e13 g13 e14 g14
         replace h0 := eq_true h0
         replace h1 := eq_true h1
         have q0P := cell_regrown (show wr.cell? ⟨w.heap.size, 0, none⟩ = some (.bool allp) from (blk_cell BPr.out 0).trans rfl)
         have q1P := cell_regrown (show wr.cell? ⟨w.heap.size, 1, none⟩ = some (.slice Ap rsp.length capp) from (blk_cell BPr.out 1).trans rfl)
         have q2P := cell_regrown (show wr.cell? ⟨w.heap.size, 2, none⟩ = some (.int .i64 0) from (blk_cell BPr.out 2).trans rfl)
         have q3P := cell_regrown (show wr.cell? ⟨w.heap.size, 3, none⟩ = some (.string ⟨#[]⟩) from (blk_cell BPr.out 3).trans rfl)
         have qnP := cell_regrown KNr.out
         have KFP := Lib.hid (fun dd os => Calls.regrown_of (HTp.out (grow (redrawn wr dd) os) ((HBr.out).trans (Below.mono (below_regrown wr dd os) HBr.out.size))))
         go_wp2_with fail
         refine wp_region_quiet_below (by kernel_rfl) (by kernel_rfl) ?_
         repeat (quiet_step ((with_reducible exact KFP.out _ _)))
         refine wpQuiet_nil ?_
         intro _ hw'
         obtain ⟨⟨dq, osq⟩, hw''⟩ := hw'
         subst hw''
         have hbz := below_regrown wr dq osq
         have H6s := Lib.hid (below_step H6r.out hbz)
         have HBs := Lib.hid (below_step HBr.out hbz)
         have BPs := Lib.hid (blk_below BPr.out hbz)
         have BQs := Lib.hid (blk_below BQr.out hbz)
         have HVs := Lib.hid (Kd.R_below HVr.out hbz)
         have KNs := Lib.hid ((hbz.cell (World.block_lt_of_cell? wr _ KNr.out)).trans KNr.out)
         clear hbz q0P q1P q2P q3P qnP KFP HBr BPr BQr HVr KNr H6r
         generalize grow (redrawn wr dq) osq = ws at *
         have q0Q := cell_regrown (show ws.cell? ⟨w.heap.size + 1, 0, none⟩ = some (.bool allq) from (blk_cell BQs.out 0).trans rfl)
         have q1Q := cell_regrown (show ws.cell? ⟨w.heap.size + 1, 1, none⟩ = some (.slice Aq rsq.length capq) from (blk_cell BQs.out 1).trans rfl)
         have q2Q := cell_regrown (show ws.cell? ⟨w.heap.size + 1, 2, none⟩ = some (.int .i64 0) from (blk_cell BQs.out 2).trans rfl)
         have q3Q := cell_regrown (show ws.cell? ⟨w.heap.size + 1, 3, none⟩ = some (.string ⟨#[]⟩) from (blk_cell BQs.out 3).trans rfl)
         have qnQ := cell_regrown KNs.out
         have KFQ := Lib.hid (fun dd os => Calls.regrown_of (HTq.out (grow (redrawn ws dd) os) ((HBs.out).trans (Below.mono (below_regrown ws dd os) HBs.out.size))))
         go_wp2_with fail
         refine wp_region_quiet_below (by kernel_rfl) (by kernel_rfl) ?_
         repeat (quiet_step ((with_reducible exact KFQ.out _ _)))
         refine wpQuiet_nil ?_
         intro _ hw'
         obtain ⟨⟨dq, osq⟩, hw''⟩ := hw'
         subst hw''
         have hbz := below_regrown ws dq osq
         have H6t := Lib.hid (below_step H6s.out hbz)
         have HBt := Lib.hid (below_step HBs.out hbz)
         have BPt := Lib.hid (blk_below BPs.out hbz)
         have BQt := Lib.hid (blk_below BQs.out hbz)
         have HVt := Lib.hid (Kd.R_below HVs.out hbz)
         have KNt := Lib.hid ((hbz.cell (World.block_lt_of_cell? ws _ KNs.out)).trans KNs.out)
         clear hbz q0Q q1Q q2Q q3Q qnQ KFQ HBs BPs BQs HVs KNs H6s
         generalize grow (redrawn ws dq) osq = wt at *
         clear KNt HTp HTq
         cases htt : (tp && tq) with
         | false =>
          have HK2 := Lib.hid (show acc = (l0.take (n + 1)).filter (fun x => takenL allp rsp x.f0.f1 && takenL allq rsq x.f0.f1) from by
           rw [HGET.out, List.filter_append, ← HK.out, List.filter_cons, if_neg (by rw [HTP.out, HTQ.out, htt]; decide)]
           simp)
          cases tp with
          | false =>
           clear htt
           go_wp2
           go_roundg k
           case measure => omega
           case rel => exact ⟨_, acc, rfl, ⟨n + 1, HW.out, by have := HNN.out; omega, HK2.out⟩, ⟨HVt.out⟩, ⟨BPt.out⟩, ⟨BQt.out⟩, ⟨H6t.out⟩⟩
          | true =>
           cases tq with
           | true => cases htt
           | false =>
            clear htt
            go_wp2
            go_roundg k
            case measure => omega
            case rel => exact ⟨_, acc, rfl, ⟨n + 1, HW.out, by have := HNN.out; omega, HK2.out⟩, ⟨HVt.out⟩, ⟨BPt.out⟩, ⟨BQt.out⟩, ⟨H6t.out⟩⟩
         | true =>
          have HK2 := Lib.hid (show acc ++ [X] = (l0.take (n + 1)).filter (fun x => takenL allp rsp x.f0.f1 && takenL allq rsq x.f0.f1) from by
           rw [HGET.out, List.filter_append, ← HK.out, List.filter_cons, if_pos (by rw [HTP.out, HTQ.out, htt])]
           rfl)
          have HCt := Lib.hid (show ∀ j v, ([.int .i64 X.f0.f0, .string X.f0.f1, .string X.f0.f2, .int .i64 X.f0.f3, .int .i64 X.f0.f4, .int .i64 X.f0.f5, .int .i64 X.f0.f6, .int .i64 X.f0.f7.f0, .int .i64 X.f0.f7.f1, .string X.f0.f8, .string X.f0.f9, .int .i64 X.f0.f10, .int .i64 X.f0.f11, .slice A13 X.f0.f12.length c13, .slice A14 X.f1.length c14] : List Value)[j]? = some v → wt.cell? ((ad.add (x.toNat * 15)).add j) = some v from fun j v hj => (HBt.out.cell (World.block_lt_of_cell? w _ (HCC.out j v hj))).trans (HCC.out j v hj))
          simp only [Bool.and_eq_true] at htt
          obtain ⟨rfl, rfl⟩ := htt
          go_wp2_with (first
           | ((with_reducible refine wpList_load_elem rfl 29 (.tmp 101) rfl (ad.add (x.toNat * 15)) rfl [.int .i64 X.f0.f0, .string X.f0.f1, .string X.f0.f2, .int .i64 X.f0.f3, .int .i64 X.f0.f4, .int .i64 X.f0.f5, .int .i64 X.f0.f6, .int .i64 X.f0.f7.f0, .int .i64 X.f0.f7.f1, .string X.f0.f8, .string X.f0.f9, .int .i64 X.f0.f10, .int .i64 X.f0.f11, .slice A13 X.f0.f12.length c13, .slice A14 X.f1.length c14] HCt.out _ Tryz.underlying29 rfl HSZ.out ?_))
           | ((with_reducible refine gate_builtin (b := .append) (xs := #[.tmp 98, .tmp 103]) rfl ?_); at_builtin; refine Kd.R_append (heldK w) (w0 := w5) w5.heap.size rfl (.tmp 98) (.tmp 103) 32 29 (.agg #[.int .i64 0, .string ⟨#[]⟩, .string ⟨#[]⟩, .int .i64 0, .int .i64 0, .int .i64 0, .int .i64 0, .int .i64 0, .int .i64 0, .string ⟨#[]⟩, .string ⟨#[]⟩, .int .i64 0, .int .i64 0, .slice none 0 0, .slice none 0 0]) 184 rfl Tryz.underlying32 infoIt rfl (Nat.succ_pos 14) (by omega) u12 acc X [.int .i64 X.f0.f0, .string X.f0.f1, .string X.f0.f2, .int .i64 X.f0.f3, .int .i64 X.f0.f4, .int .i64 X.f0.f5, .int .i64 X.f0.f6, .int .i64 X.f0.f7.f0, .int .i64 X.f0.f7.f1, .string X.f0.f8, .string X.f0.f9, .int .i64 X.f0.f10, .int .i64 X.f0.f11, .slice A13 X.f0.f12.length c13, .slice A14 X.f1.length c14] (fun _ => True) (fun k => True ∧ some k ≠ u12.ownBlock) rfl rfl ?aP (fun _ h => h) ?aF ?aO ?aB ?aS ?aL ?_; (case aP => exact HKX.out); (case aF => exact (fun _ _ => trivial)); (case aO => exact HVt.out); (case aB => exact H6t.out); (case aS => exact H6t.out.size); (case aL => have h1 := HA.out; have h2 := HNN.out; have h3 := HL.out; omega); intro v20 w20 hR20 hB20 hg20 hat20; have HV20 := Lib.hid hR20; have HB20 := Lib.hid hB20; have BP20 := Lib.hid (blk_grown BPt.out hg20 (Kd.R_ne HVt.out BPt.out (by decide))); have BQ20 := Lib.hid (blk_grown BQt.out hg20 (Kd.R_ne HVt.out BQt.out (by decide))); clear hR20 hB20 hg20 hat20))
          go_roundg k
          case measure => omega
          case rel => exact ⟨_, acc ++ [X], rfl, ⟨n + 1, HW.out, by have := HNN.out; omega, HK2.out⟩, ⟨HV20.out⟩, ⟨BP20.out⟩, ⟨BQ20.out⟩, ⟨HB20.out⟩⟩
end Go.Proofs.YtejdmofljifkbaaGreatDoor.P
/- For every two plans and list of items, of bulk at most 1048576: two plans that only take, one behind the other, leave just what both take. Condition: the bulk; the listed package variables are tied to the program's text by the given tie. -/
namespace Go.Proofs.YtejdmofljifkbaaGreatDoor.pickTwice
open Go.ChangeShapes Go.WideShapes Go.ChangeAt Go.RowKit
open Go.ChangeMaps (open_string shut_string)
set_option linter.unusedVariables false
theorem own : ownKnob Tryz.prog.godebug = none := by kernel_rfl
theorem laidOut : laidOutB Tryz.prog = true := by kernel_rfl
set_option maxRecDepth 100000 in
theorem contract (H : Type) (enc : TypeId × Value → H) (W : World) (base : Nat) (args : Array Value) (ds gs : List (DataW H)) (before : List MemPlace)
  (hval : ∀ (j : Nat) t v, Tryz.f6.params[j]? = some t → args[j]? = some v → Value.okWide Tryz.prog W .any base t v)
  (hW : DataW.Whole enc Tryz.prog Tryz.f6.params.toList Rows.pickTwiceSpec.vars false W args.toList ds gs before) (hk : Rows.uptoSmall H (ds ++ gs) = true)
  (hL : laidMetH Tryz.prog Rows.pickTwiceUptoRow.laid W) (hS : W.ShapedOpen Tryz.prog) :
  Calls Tryz.prog 6 args W fun e W' => ∃ v, e = .returned v ∧ Rows.pickTwiceSpec.post enc Tryz.prog Tryz.f6 false true false false W args v W' := by
 have hW' := hW
 obtain ⟨p, q, hA0, hV, rfl, hfz, hnd⟩ := hW
 have hA : DataW.TrodAll enc Tryz.prog W 0 (fun _ => true) true Tryz.f6.params.toList args.toList ds p := hA0
 rw [Tryz.params6] at hA hval
 obtain ⟨v0, vs0, d0, ds0, p0, q0, hargs, rfl, rfl, h0, r0⟩ := trodAll_cons hA
 obtain ⟨v1, vs1, d1, ds1, p1, q1, rfl, rfl, rfl, h1, r1⟩ := trodAll_cons r0
 obtain ⟨v2, vs2, d2, ds2, p2, q2, rfl, rfl, rfl, h2, r2⟩ := trodAll_cons r1
 obtain ⟨rfl, rfl, rfl⟩ := trodAll_nil r2
 obtain rfl : args = #[v0, v1, v2] := by cases args; simp_all
 obtain ⟨rfl, rfl⟩ := trodVars_none hV
 obtain ⟨cs0, rfl, _⟩ := okWide_struct Tryz.underlying43 (hval 0 43 v0 rfl rfl)
 obtain ⟨cs1, rfl, _⟩ := okWide_struct Tryz.underlying43 (hval 1 43 v1 rfl rfl)
 obtain ⟨B2, len2, cap2, rfl⟩ := okWide_slice Tryz.underlying32 (hval 2 32 v2 rfl rfl)
 have hk0 := h0
 obtain ⟨fuel0, hf0⟩ := h0
 have hk1 := h1
 obtain ⟨fuel1, hf1⟩ := h1
 have hk2 := h2
 obtain ⟨fuel2, hf2⟩ := h2
 clear hA0
 simp only [List.append_nil] at hW'
 have hb0 : Rows.uptoBulk d0 ≤ 1048576 := by
  have h := of_decide_eq_true hk
  simp only [List.append_nil, Rows.uptoBulkAll] at h
  omega
 have hlt0 : ∀ x ∈ p0, x.block < W.heap.size := fun x hx => by simpa using hW'.lt x (by simp [hx])
 have hback0 : ∀ (W' : World), Below W.heap.size W W' → DataW.Trod enc Tryz.prog W' 0 (fun b => decide (b < W.heap.size)) true 43 (.agg cs0) d0 p0 :=
  fun W' hn => Below.trod laidOut (by kernel_rfl) (of_decide_eq_true (by kernel_rfl)) hk0 hn hlt0
 have hb1 : Rows.uptoBulk d1 ≤ 1048576 := by
  have h := of_decide_eq_true hk
  simp only [List.append_nil, Rows.uptoBulkAll] at h
  omega
 have hlt1 : ∀ x ∈ p1, x.block < W.heap.size := fun x hx => by simpa using hW'.lt x (by simp [hx])
 have hback1 : ∀ (W' : World), Below W.heap.size W W' → DataW.Trod enc Tryz.prog W' 0 (fun b => decide (b < W.heap.size)) true 43 (.agg cs1) d1 p1 :=
  fun W' hn => Below.trod laidOut (by kernel_rfl) (of_decide_eq_true (by kernel_rfl)) hk1 hn hlt1
 have hb2 : Rows.uptoBulk d2 ≤ 1048576 := by
  have h := of_decide_eq_true hk
  simp only [List.append_nil, Rows.uptoBulkAll] at h
  omega
 have hlt2 : ∀ x ∈ p2, x.block < W.heap.size := fun x hx => by simpa using hW'.lt x (by simp [hx])
 have hback2 : ∀ (W' : World), Below W.heap.size W W' → DataW.Trod enc Tryz.prog W' 0 (fun b => decide (b < W.heap.size)) true 32 (.slice B2 len2 cap2) d2 p2 :=
  fun W' hn => Below.trod laidOut (by kernel_rfl) (of_decide_eq_true (by kernel_rfl)) hk2 hn hlt2
 obtain ⟨all0, A0, m0, rs0, st0, px0, hcs0, hle0, hC0⟩ := P.open_plan hf0 hb0
 have hc0 : cs0 = #[.bool all0, .slice A0 rs0.length m0, .int .i64 st0, .string px0] := by
  apply Array.toList_inj.1
  simpa [Value.cells] using hcs0
 obtain ⟨all1, A1, m1, rs1, st1, px1, hcs1, hle1, hC1⟩ := P.open_plan hf1 hb1
 have hc1 : cs1 = #[.bool all1, .slice A1 rs1.length m1, .int .i64 st1, .string px1] := by
  apply Array.toList_inj.1
  simpa [Value.cells] using hcs1
 obtain ⟨A2, m2, l2, hv2, hle2, hC2, hl2, hF2⟩ := P.open_items (v := .slice B2 len2 cap2) hf2 hb2
 have hG : Glob W := glob_of (show laidMetH Tryz.prog Rows.listLinesUptoRow.laid W from hL) hS
 have hw : Calls Tryz.prog 6 #[.agg cs0, .agg cs1, .slice B2 len2 cap2] W fun e W' => e = .returned (.bool true) ∧ Below W.heap.size W W' := by
  rw [hc0, hc1, hv2]
  exact P.pickTwice_true all0 A0 m0 rs0 st0 px0 all1 A1 m1 rs1 st1 px1 A2 m2 l2 W hC0 hle0 hC1 hle1 hC2 hle2 (by omega) hF2 hG
 refine hw.mono fun e W' ⟨he, hg⟩ => ?_
 subst he
 exact ⟨_, rfl, _, _, _, [], _, [], hW', (trodAll_cons_mk (shut_bool Tryz.underlying4 _) trodAll_mk0), (trodAll_cons_mk (hback0 W' hg) (trodAll_cons_mk (hback1 W' hg) (trodAll_cons_mk (hback2 W' hg) trodAll_mk0))), rfl, hg.frame _, fun h => by cases h⟩
noncomputable def world0 (os : Os) : World := World.laidAll Tryz.prog os Rows.pickTwiceUptoRow.laid
theorem laid_met (os : Os) : laidMetH Tryz.prog Rows.pickTwiceUptoRow.laid ((world0 os).forCall (fun _ _ => 0) ⟨#[], #[.agg #[.bool false, .slice none 0 0, .int .i64 0, .string ⟨#[]⟩], .agg #[.bool false, .slice none 0 0, .int .i64 0, .string ⟨#[]⟩], .slice none 0 0], []⟩).memory := by
 rw [MakeChecks.laidMetH_plain _ _ _ (by kernel_rfl)]
 exact laidMet_laidAll _ (by kernel_rfl) (by kernel_rfl)
theorem reads (os : Os) {H : Type} (enc : TypeId × Value → H) : ∃ places, DataW.whole enc Tryz.prog ((world0 os).forCall (fun _ _ => 0) ⟨#[], #[.agg #[.bool false, .slice none 0 0, .int .i64 0, .string ⟨#[]⟩], .agg #[.bool false, .slice none 0 0, .int .i64 0, .string ⟨#[]⟩], .slice none 0 0], []⟩).memory Tryz.f6.params.toList Rows.pickTwiceSpec.vars false (#[.agg #[.bool false, .slice none 0 0, .int .i64 0, .string ⟨#[]⟩], .agg #[.bool false, .slice none 0 0, .int .i64 0, .string ⟨#[]⟩], .slice none 0 0] : Array Value).toList 8 = some ([.agg [.lit (.bool false), .nil, .lit (.int .i64 0), .lit (.string [])], .agg [.lit (.bool false), .nil, .lit (.int .i64 0), .lit (.string [])], .nil], [], places) :=
 ⟨[], by kernel_rfl⟩
set_option maxRecDepth 100000 in
theorem lifted (os : Os) (started : os.Started) (H : Type) (enc : TypeId × Value → H) (F : Stop.Interp) :
  ReturnsInHanded {} Tryz.checked os 6 .any ((Rows.OpenSpec.upto Rows.pickTwiceSpec).preRow enc Tryz.prog Tryz.f6 Rows.pickTwiceUptoRow.domain false Rows.pickTwiceUptoRow.laid) (((Rows.OpenSpec.upto Rows.pickTwiceSpec).at F).post enc Tryz.prog Tryz.f6 false true false false) := by
 obtain ⟨places, hx⟩ := reads os enc
 refine returnsInHanded_of_row (C := Tryz.checked) (s := Rows.OpenSpec.upto Rows.pickTwiceSpec) own started (by kernel_rfl) Tryz.func6
  (witness_row_atRef (enc := enc) (C := Tryz.checked) false (world0 os) #[.agg #[.bool false, .slice none 0 0, .int .i64 0, .string ⟨#[]⟩], .agg #[.bool false, .slice none 0 0, .int .i64 0, .string ⟨#[]⟩], .slice none 0 0] (World.laidAll_os _ _ _) (by kernel_rfl) (by kernel_rfl) (by kernel_rfl)
   (OpenSpec.preRow_of_cond 8 hx (by kernel_rfl) (fun k hk => by cases hk; kernel_rfl) (by kernel_rfl) (laid_met os))) ?_
 intro W base args ds gs before hval hW _ hcond _ hL hS _
 exact contract H enc W base args ds gs before hval hW (hcond _ rfl) hL hS
theorem said : Rows.PickTwiceUptoSaid :=
 OpenClaim.holds_of_cond 6 Tryz.f6 rfl rfl rfl rfl rfl rfl rfl ⟨rfl, rfl, rfl, rfl, rfl⟩ rfl rfl rfl rfl rfl (by kernel_rfl) Tryz.func6 (by kernel_rfl)
  (of_decide_eq_true (by kernel_rfl)) (by unfold Func.isWrapper; first | (rw [if_pos (by decide +kernel)]; kernel_rfl) | (rw [if_neg (by decide +kernel)]; exact ⟨rfl, rfl⟩))
  (fun os started H enc _ F => by rw [OpenClaim.pre_eq_preRow]; exact lifted os started H enc F)
theorem plain (f : FuncId) (fn : Func) (hf : Tryz.pinned.checked.prog.funcNamed "oakum/oakumlaw26.PickTwice" = some f) (hfn : Tryz.pinned.checked.prog.funcs[f]? = some fn) :
  true = Tryz.pinned.checked.prog.looks [] ∧ ∀ (j : Nat) t, fn.params[j]? = some t → Tryz.pinned.checked.prog.wantsStandIn t = false := by
 obtain rfl : f = 6 := Option.some.inj ((show Tryz.prog.funcNamed "oakum/oakumlaw26.PickTwice" = some 6 by kernel_rfl).symm.trans hf) |>.symm
 obtain rfl : fn = Tryz.f6 := (Option.some.inj (Tryz.func6.symm.trans hfn)).symm
 refine ⟨by kernel_rfl, fun j t ht => ?_⟩
 rw [Tryz.params6] at ht
 have hm := Array.mem_of_getElem? ht
 simp only [List.mem_toArray, List.mem_cons, List.not_mem_nil, or_false] at hm
 rcases hm with rfl | rfl | rfl
 ·exact (show Tryz.prog.wantsStandIn 43 = false by kernel_rfl)
 ·exact (show Tryz.prog.wantsStandIn 43 = false by kernel_rfl)
 ·exact (show Tryz.prog.wantsStandIn 32 = false by kernel_rfl)
theorem proved : Rows.PickTwiceUptoCardSaid :=
 Claim7.holds_tied_plain_at .later [] _ _ _ _ said (fun _ h => by cases h) (by kernel_rfl) (fun _ h => by cases h) pickTwiceUpto_row_tie rfl ⟨rfl, rfl⟩ (by kernel_rfl) rfl plain (by kernel_rfl)
#print axioms proved
end Go.Proofs.YtejdmofljifkbaaGreatDoor.pickTwice
