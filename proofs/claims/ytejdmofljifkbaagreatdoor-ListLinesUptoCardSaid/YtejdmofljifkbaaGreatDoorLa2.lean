/- A part of the proof: its steps, joined out of smaller texts. -/
import Derived.Test.YtejdmofljifkbaaGreatDoorLa1
import Derived.Laws.StructEq
import Derived.Test.YtejdmofljifkbaaGreatDoorRows
import Derived.WalkSpells
import Derived.Lib.Hide
import Derived.WalkLawsBesides
import Derived.Shelf.Strings.Builder1
import Derived.Shelf.Strings.Builder2
import Derived.Shelf.Strings.OnBuilder
import Derived.Shelf.Small.Utf8
import Derived.Shelf.Small.Strs
import Derived.Shelf.Small.Wraps
import Derived.Shelf.Strings.BuilderF
import Derived.Shelf.Strings.BuilderK
import Derived.Shelf.Strings.Builder2Cap
import Derived.Shelf.Strconv.Itoa0
import Derived.Shelf.Strconv.Itoa1
import Derived.Shelf.LaysM
import Derived.Shelf.Strconv.Itoa2
import Derived.Shelf.Strconv.Itoa3
import Derived.Shelf.Strconv.Itoa4
import Derived.Shelf.Strconv.ParseIntEmpty
import Derived.Shelf.Strconv.Clone
import Derived.Shelf.Strconv.SyntaxError
import Derived.Shelf.LaysC
import Derived.Shelf.Strconv.ToError
import Derived.Shelf.Strconv.Lower
import Derived.Shelf.Strconv.ParseUint10
import Derived.Shelf.Strconv.ParseUint10Empty
import Derived.Shelf.Strconv.ParseUint10Any
import Derived.Shelf.Strconv.ParseInt10
import Derived.Shelf.Strconv.RangeError
import Derived.Shelf.Strconv.ToErrorRange
import Derived.Shelf.Strconv.ParseUintEmpty
import Derived.Shelf.Strconv.ParseUint10b64
import Derived.Shelf.Strconv.ParseUint10b32
import Derived.Shelf.Strconv.ParseUint10b16
import Derived.Shelf.Strconv.ParseUint10b8
import Derived.Shelf.Strconv.ParseUint10At
import Derived.Shelf.Strconv.ParseInt10At64
import Derived.Shelf.Strconv.ParseInt10At32
import Derived.Shelf.Strconv.ParseInt10At16
import Derived.Shelf.Strconv.ParseInt10At8
import Derived.Shelf.Strconv.ParseInt10All
import Derived.Shelf.Strconv.ParseIntPublic10
import Derived.Shelf.Strconv.ErrVarParseInt
import Derived.Ground.MpProg
import Derived.Shelf.Pu.ParseUintPublic10
import Derived.Shelf.Pu.ErrVarParseUint
import Derived.Shelf.Strings.Search1
import Derived.Shelf.Strings.Search2
import Derived.Shelf.Strings.Search3
import Derived.Shelf.Strings.Cut
import Derived.Shelf.Strings.Shaped
import Derived.Shelf.Strings.Prefix
import Derived.Shelf.Unicode.Decode
import Derived.Shelf.Strings.Runes
import Derived.Shelf.Strings.IndexAny
import Derived.Shelf.Strings.AsciiSet
import Derived.Shelf.Strings.IndexAnyAll
import Derived.Shelf.Bits.Mul64
import Derived.Shelf.Strings.Repeat
import Derived.Shelf.Unicode.DecodeSlow
import Derived.Shelf.Unicode.DecodeAny
import Derived.Shelf.Strings.BuilderCap
import Derived.Lib.AppendIntMem
namespace Go.Proofs.YtejdmofljifkbaaGreatDoorW.PrintWords
open Go.RowKit
namespace Kd
structure Heap {α : Type} (d : Kd α) : Prop where
 K : ∀ {w w1 : World} {x : α} {cs : List Value}, (∀ k, k < w.heap.size → w1.heap[k]? = w.heap[k]?) → d.K w x cs → d.K w1 x cs
theorem cell_heap {w w1 : World} (hb : ∀ k, k < w.heap.size → w1.heap[k]? = w.heap[k]?) {a : Addr} {v : Value} (h : w.cell? a = some v) : w1.cell? a = some v := by
 have := hb a.block (World.block_lt_of_cell? w a h)
 simpa [World.cell?, this] using h
theorem Heap.C {α : Type} {d : Kd α} (hd : Heap d) {w w1 : World} {A : Option Addr} {n : Nat} {xs : List α} (hb : ∀ k, k < w.heap.size → w1.heap[k]? = w.heap[k]?) (h : d.C w A n xs) : d.C w1 A n xs :=
 ⟨h.1, h.2.1, fun hn => by
  obtain ⟨ad, e, hc⟩ := h.2.2 hn
  refine ⟨ad, e, fun j p hj => ?_⟩
  obtain ⟨c, hs, hr, hcell⟩ := hc j p hj
  exact ⟨c, hs, hd.K hb hr, fun i u hu => cell_heap hb (hcell i u hu)⟩⟩
section
variable {α : Type} {d : Kd α} {e base g n c : Nat} {ok : Nat → Prop} {w w0 W : World} {A : Option Addr} {xs : List α}
end
end Kd
end Go.Proofs.YtejdmofljifkbaaGreatDoorW.PrintWords
namespace Go.Proofs.YtejdmofljifkbaaGreatDoorW.PrintWords
open Go.RowKit
def Kept (w W : World) (S : Nat → Prop) : Prop := w.heap.size ≤ W.heap.size ∧ ∀ i, i < w.heap.size → ¬ S i → W.heap[i]? = w.heap[i]?
section
variable {w W W2 : World} {S S2 S' : Nat → Prop}
theorem Kept.refl (w : World) (S : Nat → Prop) : Kept w w S := ⟨Nat.le_refl _, fun _ _ _ => rfl⟩
theorem Kept.of_below (h : Below w.heap.size w W) (S : Nat → Prop) : Kept w W S := ⟨h.size, fun i hi _ => h.block i hi⟩
theorem Kept.then_ (h : Kept w W S) (k : Kept W W2 S2) (hs : ∀ k, S2 k → S k ∨ w.heap.size ≤ k) : Kept w W2 S :=
 ⟨Nat.le_trans h.1 k.1, fun i hi hn => (k.2 i (Nat.lt_of_lt_of_le hi h.1) (fun h2 => (hs i h2).elim hn (fun h3 => by omega))).trans (h.2 i hi hn)⟩
theorem Kept.below (h : Kept w W S) (hb : Below W.heap.size W W2) : Kept w W2 S := h.then_ (Kept.of_below hb (fun _ => False)) (fun _ hk => hk.elim)
theorem Kept.alloc (h : Kept w W S) (o : Obj) : Kept w (W.alloc o) S := h.below (below_alloc (Below.refl _ _) o)
theorem Kept.drew (h : Kept w W S) : Kept w W.drew S := h
theorem Kept.drewN (h : Kept w W S) (m : Nat) : Kept w (W.drewN m) S := h
theorem Kept.setCell (h : Kept w W S) {p : Addr} (hp : S p.block ∨ w.heap.size ≤ p.block) (u : Value) : Kept w (W.setCell p u) S :=
 h.then_ (S2 := fun k => k = p.block) ⟨by simp [World.setCell], fun i _ hn => Below.heap_setCell W p u i hn⟩ (fun k hk => by rw [hk]; exact hp)
theorem Kept.keep {g : Nat} (h : KeepBut w W g none) (k : Kept W W2 S2) (hs : ∀ k, S2 k → w.heap.size ≤ k) : KeepBut w W2 g none :=
 ⟨Nat.le_trans h.1 k.1, fun i hi hg hr => (k.2 i (Nat.lt_of_lt_of_le hi h.1) (fun h2 => by have := hs i h2; omega)).trans (h.2 i hi hg hr)⟩
end
namespace Kd
section
variable {α : Type} {d : Kd α} {e base n c : Nat} {ok oki S S2 : Nat → Prop} {w w0 W W1 W2 : World} {v : Value} {A : Option Addr} {xs : List α} {i : Int} {cs : List Value}
end
end Kd
end Go.Proofs.YtejdmofljifkbaaGreatDoorW.PrintWords
namespace Go.Proofs.YtejdmofljifkbaaGreatDoorW.PrintWords
open Go.RowKit
def Foot (P : World → Prop) (W : World) (ok : Nat → Prop) : Prop := ∀ W' : World, (∀ k, ok k → k < W.heap.size → W'.heap[k]? = W.heap[k]?) → P W'
theorem heap_lt {W W1 : World} {k : Nat} (h : W1.heap[k]? = W.heap[k]?) (hlt : k < W.heap.size) : k < W1.heap.size := by
 rw [Array.getElem?_eq_getElem hlt] at h
 exact (Array.getElem?_eq_some_iff.1 h).1
namespace Foot
variable {P Q : World → Prop} {W W1 : World} {ok ok' : Nat → Prop}
theorem now (h : Foot P W ok) : P W := h W (fun _ _ _ => rfl)
theorem bound (h : Foot P W ok) : Foot P W (fun k => ok k ∧ k < W.heap.size) := fun W' hW => h W' (fun k hk hlt => hW k ⟨hk, hlt⟩ hlt)
theorem step (h : Foot P W ok) (hm : ∀ k, ok k → k < W.heap.size → W1.heap[k]? = W.heap[k]?) : Foot P W1 ok := fun W' hW => h W' (fun k hk hlt => (hW k hk (heap_lt (hm k hk hlt) hlt)).trans (hm k hk hlt))
theorem old (h : Foot P W ok) (hb : Below W.heap.size W W1) : Foot P W1 (fun k => ok k ∧ k < W.heap.size) := (h.bound).step (fun k _ hlt => hb.block k hlt)
end Foot
namespace Kd
def F {α : Type} (d : Kd α) (W : World) (ok : Nat → Prop) (A : Option Addr) (n : Nat) (xs : List α) : Prop := Foot (fun W => d.C W A n xs) W ok
def FK {α : Type} (d : Kd α) (W : World) (ok : Nat → Prop) (x : α) (c : List Value) : Prop := Foot (fun W => d.K W x c) W ok
section
variable {α β : Type} {d : Kd α} {e base n n' cc g N : Nat} {ok ok' okp S : Nat → Prop} {w w0 w1 W W1 : World} {A A' : Option Addr} {u v v1 : Value} {xs : List α} {xs' : List β} {d' : Kd β} {x : α} {c : List Value}
theorem F_nil (d : Kd α) (W : World) (ok : Nat → Prop) : F d W ok none ([] : List α).length [] := fun W' _ => C_nil d W'
theorem FK_of_M (h : d.M W base ok x c) : FK d W ok x c := fun _ hW => d.K_of_M (M_step h hW)
end
end Kd
end Go.Proofs.YtejdmofljifkbaaGreatDoorW.PrintWords
namespace Go.Proofs.YtejdmofljifkbaaGreatDoorW.PrintWords
open Go.RowKit
namespace Kd
def chunks (sz : Nat) (n : Nat) (inner : List Value) : List (List Value) := (List.range n).map fun j => (inner.drop (j * sz)).take sz
theorem chunks_length (sz n : Nat) (inner : List Value) : (chunks sz n inner).length = n := by simp [chunks]
theorem chunks_at {sz n : Nat} {inner : List Value} {j : Nat} (hj : j < n) : (chunks sz n inner)[j]? = some ((inner.drop (j * sz)).take sz) := by simp [chunks, hj]
theorem chunks_get {sz n : Nat} {inner : List Value} {j : Nat} {c : List Value} (h : (chunks sz n inner)[j]? = some c) : c = (inner.drop (j * sz)).take sz := by
 have hj : j < n := by have := (List.getElem?_eq_some_iff.1 h).1; rwa [chunks_length] at this
 rw [chunks_at hj] at h
 injection h with h
 exact h.symm
theorem reps_raw {α : Type} {Rr : α → List Value → Prop} {sz : Nat} {xs : List α} {inner : List Value} (h : Reps Rr sz xs inner) (hR : ∀ x c, Rr x c → c.length = sz ∧ ∀ u ∈ c, u.oneCell' = true) : Reps (fun x cs => cs = x ∧ cs.length = sz ∧ ∀ u ∈ cs, u.oneCell' = true) sz (chunks sz xs.length inner) inner := by
 refine ⟨by rw [chunks_length]; exact h.1, fun j p hj => ?_⟩
 have hjl : j < xs.length := by have := (List.getElem?_eq_some_iff.1 hj).1; rwa [chunks_length] at this
 have hp := chunks_get hj
 exact ⟨hp.symm, hR _ _ (h.2 j _ (List.getElem?_eq_getElem hjl))⟩
section
variable {α : Type} {d : Kd α} {e base n cc g : Nat} {ok ok' okp S : Nat → Prop} {w w1 W W1 : World} {A : Option Addr} {u v v1 : Value} {xs : List α} {x : α} {c : List Value}
def N {α : Type} (d : Kd α) (e : Nat) (w : World) (base : Nat) (ok : Nat → Prop) (v : Value) (xs : List α) : Prop :=
 (∀ k, v.ownBlock = some k → ok k) ∧ ∃ rows : List (List Value), rows.length = xs.length ∧ (raw d.sz).R e w base (fun k => some k = v.ownBlock) v rows ∧ ∀ (j : Nat) (x : α) (c : List Value), xs[j]? = some x → rows[j]? = some c → FK d w (fun k => ok k ∧ some k ≠ v.ownBlock) x c
theorem R_N (h : d.R e w base ok v xs) : N d e w base ok v xs := by
 obtain ⟨h0, inner, ho, hr⟩ := h
 refine ⟨h0, chunks d.sz xs.length inner, chunks_length _ _ _, ⟨fun k hk => hk.symm, inner, by rw [chunks_length]; exact ho, reps_raw hr (fun x c hp => ⟨d.K_len (d.K_of_M hp), d.K_one (d.K_of_M hp)⟩)⟩, fun j x c hx hc => ?_⟩
 rw [chunks_get hc]
 exact FK_of_M (hr.2 j x hx)
theorem N_nil (d : Kd α) (e : Nat) (w : World) (base : Nat) (ok : Nat → Prop) : N d e w base ok (.slice none 0 0) [] := R_N (R_nil _ _ _ _ _)
end
end Kd
end Go.Proofs.YtejdmofljifkbaaGreatDoorW.PrintWords
namespace Go.Proofs.YtejdmofljifkbaaGreatDoorW.PrintWords
open Go.RowKit
namespace Kd
section
variable {α : Type} {d : Kd α} {W : World} {g n : Nat} {S ok : Nat → Prop} {A : Option Addr} {ad : Addr} {xs : List α}
end
end Kd
end Go.Proofs.YtejdmofljifkbaaGreatDoorW.PrintWords
namespace Go.Proofs.YtejdmofljifkbaaGreatDoorW.PrintWords
open Go.RowKit
section
variable {w w' u : World} {m B g : Nat} {o : Obj} {row : Option Nat} {S : Nat → Prop} {a : Addr} {v : Value}
end
namespace Kd
section
variable {α : Type} {d : Kd α} {e base n m : Nat} {ok : Nat → Prop} {w w' : World} {v : Value} {A : Option Addr} {xs : List α}
end
end Kd
end Go.Proofs.YtejdmofljifkbaaGreatDoorW.PrintWords
namespace Go.Proofs.YtejdmofljifkbaaGreatDoorW.PrintWords
open Go.RowKit
section
variable {P : Program} {d : Nat} {xs ys : Array Value} {f : Field} {fs : List Field} {a b : Value} {r s : Bool} {w : World}
theorem eqf_last (hn : (f.name == "_") = false) (ha : (part f.type xs f.offset).run P w = .ok a w) (hb : (part f.type ys f.offset).run P w = .ok b w) (he : (Op.equalIn d f.type a b).run P w = .ok r w) : (Op.eqFields d xs ys [f]).run P w = .ok r w := by
 have hn' : f.name ≠ "_" := by simpa using hn
 simp only [Op.eqFields, if_pos hn', Sem.run_bind, ha, hb, he, Result.andThen_ok]
 cases r <;> simp
theorem eqf_cons (hn : (f.name == "_") = false) (ha : (part f.type xs f.offset).run P w = .ok a w) (hb : (part f.type ys f.offset).run P w = .ok b w) (he : (Op.equalIn d f.type a b).run P w = .ok r w) (hr : (Op.eqFields d xs ys fs).run P w = .ok s w) : (Op.eqFields d xs ys (f :: fs)).run P w = .ok (r && s) w := by
 have hn' : f.name ≠ "_" := by simpa using hn
 rw [Op.eqFields]
 simp only [if_pos hn', Sem.run_bind, ha, hb, he, Result.andThen_ok]
 cases r
 ·simp
 ·simpa using hr
theorem eqA_of {t : TypeId} {fs : Array Field} (hu : P.underlying t = some (.struct fs)) (hp : P.stoodInHeld t = false) (h : (Op.eqFields d xs ys fs.toList).run P w = .ok r w) : (Op.equalIn (d + 1) t (.agg xs) (.agg ys)).run P w = .ok r w := by
 have hf : P.fieldsOf t = fs := by simp [Program.fieldsOf, hu]
 rw [run_equalIn_struct (P := P) w d t xs ys (by rw [hf]; exact hu) hp, hf]
 exact h
end
end Go.Proofs.YtejdmofljifkbaaGreatDoorW.PrintWords
namespace Go.Proofs.YtejdmofljifkbaaGreatDoorW.PrintWords
theorem Reps.one {α : Type} {R : α → List Value → Prop} {ps : List α} {cs : List Value} {p : α} {v : Value} (hp : R p [v]) (h : Reps R 1 ps cs) : Reps R 1 (p :: ps) (v :: cs) := by
 refine ⟨by simp [h.1], fun j q hq => ?_⟩
 cases j with
 | zero =>
  simp only [List.getElem?_cons_zero, Option.some.injEq] at hq
  subst hq
  simpa using hp
 | succ j =>
  simp only [List.getElem?_cons_succ] at hq
  have h1 := h.2 j q hq
  simpa [Nat.mul_one] using h1
theorem Reps.front {α : Type} {R : α → List Value → Prop} {size : Nat} {ps : List α} {cs c all : List Value} {p : α} (hp : R p c) (hc : c.length = size) (h : Reps R size ps cs) (ha : c ++ cs = all) : Reps R size (p :: ps) all := by
 subst ha
 refine ⟨by rw [List.length_append, hc, h.1, List.length_cons, Nat.succ_mul, Nat.add_comm], fun j q hq => ?_⟩
 cases j with
 | zero =>
  simp only [List.getElem?_cons_zero, Option.some.injEq] at hq
  subst hq
  rw [Nat.zero_mul, List.drop_zero, List.take_append_of_le_length (by omega), List.take_of_length_le (by omega)]
  exact hp
 | succ j =>
  simp only [List.getElem?_cons_succ] at hq
  have h1 := h.2 j q hq
  rw [Nat.succ_mul, List.drop_append, List.drop_of_length_le (by rw [hc]; exact Nat.le_add_left _ _), List.nil_append, hc, Nat.add_sub_cancel]
  exact h1
theorem Reps.c2 {α : Type} {R : α → List Value → Prop} {ps : List α} {cs : List Value} {p : α} {va vb : Value} (hp : R p [va, vb]) (h : Reps R 2 ps cs) : Reps R 2 (p :: ps) (va :: vb :: cs) := Reps.front hp rfl h rfl
theorem Reps.c3 {α : Type} {R : α → List Value → Prop} {ps : List α} {cs : List Value} {p : α} {va vb vc : Value} (hp : R p [va, vb, vc]) (h : Reps R 3 ps cs) : Reps R 3 (p :: ps) (va :: vb :: vc :: cs) := Reps.front hp rfl h rfl
theorem Reps.c4 {α : Type} {R : α → List Value → Prop} {ps : List α} {cs : List Value} {p : α} {va vb vc vd : Value} (hp : R p [va, vb, vc, vd]) (h : Reps R 4 ps cs) : Reps R 4 (p :: ps) (va :: vb :: vc :: vd :: cs) := Reps.front hp rfl h rfl
theorem Reps.c5 {α : Type} {R : α → List Value → Prop} {ps : List α} {cs : List Value} {p : α} {va vb vc vd ve : Value} (hp : R p [va, vb, vc, vd, ve]) (h : Reps R 5 ps cs) : Reps R 5 (p :: ps) (va :: vb :: vc :: vd :: ve :: cs) := Reps.front hp rfl h rfl
theorem Reps.c6 {α : Type} {R : α → List Value → Prop} {ps : List α} {cs : List Value} {p : α} {va vb vc vd ve vf : Value} (hp : R p [va, vb, vc, vd, ve, vf]) (h : Reps R 6 ps cs) : Reps R 6 (p :: ps) (va :: vb :: vc :: vd :: ve :: vf :: cs) := Reps.front hp rfl h rfl
theorem Reps.c7 {α : Type} {R : α → List Value → Prop} {ps : List α} {cs : List Value} {p : α} {va vb vc vd ve vf vg : Value} (hp : R p [va, vb, vc, vd, ve, vf, vg]) (h : Reps R 7 ps cs) : Reps R 7 (p :: ps) (va :: vb :: vc :: vd :: ve :: vf :: vg :: cs) := Reps.front hp rfl h rfl
theorem Reps.c8 {α : Type} {R : α → List Value → Prop} {ps : List α} {cs : List Value} {p : α} {va vb vc vd ve vf vg vh : Value} (hp : R p [va, vb, vc, vd, ve, vf, vg, vh]) (h : Reps R 8 ps cs) : Reps R 8 (p :: ps) (va :: vb :: vc :: vd :: ve :: vf :: vg :: vh :: cs) := Reps.front hp rfl h rfl
theorem Reps.c9 {α : Type} {R : α → List Value → Prop} {ps : List α} {cs : List Value} {p : α} {va vb vc vd ve vf vg vh vi : Value} (hp : R p [va, vb, vc, vd, ve, vf, vg, vh, vi]) (h : Reps R 9 ps cs) : Reps R 9 (p :: ps) (va :: vb :: vc :: vd :: ve :: vf :: vg :: vh :: vi :: cs) := Reps.front hp rfl h rfl
theorem Reps.c10 {α : Type} {R : α → List Value → Prop} {ps : List α} {cs : List Value} {p : α} {va vb vc vd ve vf vg vh vi vj : Value} (hp : R p [va, vb, vc, vd, ve, vf, vg, vh, vi, vj]) (h : Reps R 10 ps cs) : Reps R 10 (p :: ps) (va :: vb :: vc :: vd :: ve :: vf :: vg :: vh :: vi :: vj :: cs) := Reps.front hp rfl h rfl
end Go.Proofs.YtejdmofljifkbaaGreatDoorW.PrintWords
namespace Go.Proofs.YtejdmofljifkbaaGreatDoorW.PrintLast
def up (b : Nat → Bool) (i : Nat) : Nat → Bool := fun j => if j = i then true else b j
section
variable {P : Program} {ops : Array Oper} {Q : Exit → Act → World → Prop} {md : Region.Mode} {T : Bool × List (List Nat × List Nat)} {B : List Nat} {O : List Nat} {b : Nat → Bool} {i j n : Nat}
end
end Go.Proofs.YtejdmofljifkbaaGreatDoorW.PrintLast
namespace Go.Proofs.YtejdmofljifkbaaGreatDoorW.PrintWords
open Go.RowKit
end Go.Proofs.YtejdmofljifkbaaGreatDoorW.PrintWords
namespace Go.Proofs.YtejdmofljifkbaaGreatDoorW.PrintLast
section
variable {ops : Array Oper} {a : Act} {o og : Oper} {g : Nat} {t : Tmp} {u : Bool}
end
end Go.Proofs.YtejdmofljifkbaaGreatDoorW.PrintLast
namespace Go.Proofs.YtejdmofljifkbaaGreatDoorW.PrintWords
open Go.RowKit
section
variable {P : Program} {ops : Array Oper} {rest : List Oper} {o : Oper} {a : Act} {Q : Exit → Act → World → Prop} {W : World}
theorem gate_guard (hw : Region.wanted o (yielded ops a.tmps) = true) (h : wpList P ops Q ({ o with guard := none } :: rest) a W) : wpList P ops Q (o :: rest) a W := by
 have h1 : Region.wanted { o with guard := none } (yielded ops a.tmps) = true := rfl
 unfold wpList at h ⊢
 rw [if_pos h1] at h
 rw [if_pos hw]
 exact h
end
end Go.Proofs.YtejdmofljifkbaaGreatDoorW.PrintWords
namespace Go.Proofs.YtejdmofljifkbaaGreatDoorW.PrintWords
open Go.RowKit
namespace Kd
section
variable {α : Type} {d : Kd α} {e base n cap g : Nat} {ok ok' okp : Nat → Prop} {w w1 W : World} {v v1 : Value} {xs ys : List α}
end
section
variable {P : Program} {ops : Array Oper} {rest : List Oper} {o : Oper} {a : Act} {Q : Exit → Act → World → Prop} {Kc : Act → World → Prop} {α : Type}
end
end Kd
end Go.Proofs.YtejdmofljifkbaaGreatDoorW.PrintWords
namespace Go.Proofs.YtejdmofljifkbaaGreatDoorW.PrintMore
open Go.RowKit Go.Proofs.YtejdmofljifkbaaGreatDoorW.PrintWords
namespace Kd
open Go.Proofs.YtejdmofljifkbaaGreatDoorW.PrintWords.Kd
end Kd
namespace Kd
open Go.Proofs.YtejdmofljifkbaaGreatDoorW.PrintWords.Kd
section
variable {α : Type} {d : Kd α} {e base g N : Nat} {ok : Nat → Prop} {W w1 : World} {u v : Value} {xs : List α}
end
end Kd
theorem max2_int (k k' : IntKind) (x y : Int) : Builtin.max2 (.int k x) (.int k' y) = pure (.int k (if x < y then y else x)) := by simp only [Builtin.max2, gt_iff_lt]
theorem min2_int (k k' : IntKind) (x y : Int) : Builtin.min2 (.int k x) (.int k' y) = pure (.int k (if y < x then y else x)) := by simp only [Builtin.min2]
theorem max_two (ats : Array TypeId) (ty : TypeId) (a b : Value) : Builtin.max_ ats ty #[a, b] = (Builtin.max2 a b >>= fun s => pure s) := by simp only [Builtin.max_, List.foldlM_cons, List.foldlM_nil]
theorem min_two (ats : Array TypeId) (ty : TypeId) (a b : Value) : Builtin.min_ ats ty #[a, b] = (Builtin.min2 a b >>= fun s => pure s) := by simp only [Builtin.min_, List.foldlM_cons, List.foldlM_nil]
theorem max_three (ats : Array TypeId) (ty : TypeId) (a b c : Value) : Builtin.max_ ats ty #[a, b, c] = (Builtin.max2 a b >>= fun s => Builtin.max2 s c >>= fun s => pure s) := by simp only [Builtin.max_, List.foldlM_cons, List.foldlM_nil]
theorem min_three (ats : Array TypeId) (ty : TypeId) (a b c : Value) : Builtin.min_ ats ty #[a, b, c] = (Builtin.min2 a b >>= fun s => Builtin.min2 s c >>= fun s => pure s) := by simp only [Builtin.min_, List.foldlM_cons, List.foldlM_nil]
theorem max_four (ats : Array TypeId) (ty : TypeId) (a b c d : Value) : Builtin.max_ ats ty #[a, b, c, d] = (Builtin.max2 a b >>= fun s => Builtin.max2 s c >>= fun s => Builtin.max2 s d >>= fun s => pure s) := by simp only [Builtin.max_, List.foldlM_cons, List.foldlM_nil]
theorem min_four (ats : Array TypeId) (ty : TypeId) (a b c d : Value) : Builtin.min_ ats ty #[a, b, c, d] = (Builtin.min2 a b >>= fun s => Builtin.min2 s c >>= fun s => Builtin.min2 s d >>= fun s => pure s) := by simp only [Builtin.min_, List.foldlM_cons, List.foldlM_nil]
end Go.Proofs.YtejdmofljifkbaaGreatDoorW.PrintMore
namespace Go.Proofs.YtejdmofljifkbaaGreatDoorW.PrintWords
open Go.RowKit
section
variable {P : Program} {ops : Array Oper} {rest : List Oper} {o : Oper} {a : Act} {Q : Exit → Act → World → Prop} {W : World}
theorem gate_callee {f : FuncId} {as_ : Array Operand} {ts : Array TypeId} (_ho : o.op = .call { callee := .value (.func f), args := as_, argTypes := ts }) (h : wpList P ops Q (o :: rest) a W) : wpList P ops Q (o :: rest) a W := h
theorem gate_builtin {b : Builtin} {xs : Array Operand} {ts : Array TypeId} (_ho : o.op = .call { callee := .builtin b, args := xs, argTypes := ts }) (h : wpList P ops Q (o :: rest) a W) : wpList P ops Q (o :: rest) a W := h
end
def mx (a b : Int) : Int := if a < b then b else a
def shl (k : IntKind) (x y : Int) : Int := k.wrap (x * 2 ^ min y.toNat k.bits)
theorem shl_small {k : IntKind} {x y j : Int} (h : shl k x y = j) (hy : y ≤ k.bits) : k.wrap (x * 2 ^ y.toNat) = j := by rw [← h]; unfold shl; rw [Nat.min_eq_left (by omega)]
namespace Kd
section
variable {α : Type} {d : Kd α} {e base : Nat} {ok : Nat → Prop} {W w1 : World} {v : Value} {xs : List α}
end
section
variable {α : Type} {d : Kd α} {e base g n cap : Nat} {ok oki okp : Nat → Prop} {W : World} {xs : List α} {i : Int} {c : List Value}
end
section
variable {α : Type} {d : Kd α} {e base b b' g N : Nat} {ok ok1 : Nat → Prop} {W W2 w1 : World} {u v : Value} {xs ys : List α} {S : Nat → Prop}
end
end Kd
end Go.Proofs.YtejdmofljifkbaaGreatDoorW.PrintWords
namespace Go.Proofs.YtejdmofljifkbaaGreatDoorW.PrintWords
open Go.RowKit
namespace Kd
def V {α : Type} (d : Kd α) (_e : Nat) (W : World) (_base : Nat) (ok : Nat → Prop) (v : Value) (xs : List α) : Prop := ∃ A c, v = .slice A xs.length c ∧ xs.length ≤ c ∧ F d W ok A xs.length xs
section
variable {α β : Type} {d : Kd α} {e base base' n m c g N' lo hi : Nat} {ok ok' S : Nat → Prop} {w W w1 : World} {A : Option Addr} {ad : Addr} {u v v1 : Value} {xs : List α}
theorem V_nil (d : Kd α) (e : Nat) (W : World) (base : Nat) (ok : Nat → Prop) : V d e W base ok (.slice none 0 0) [] := ⟨none, 0, rfl, Nat.le_refl _, F_nil d W ok⟩
end
end Kd
end Go.Proofs.YtejdmofljifkbaaGreatDoorW.PrintWords
namespace Go.Proofs.YtejdmofljifkbaaGreatDoor.P
open Go.RowKit Go.Proofs.YtejdmofljifkbaaGreatDoorW.PrintWords Go.Proofs.YtejdmofljifkbaaGreatDoorW.PrintLast Go.Proofs.YtejdmofljifkbaaGreatDoorW.PrintMore
attribute [local go_sem] max2_int min2_int max_two min_two max_three min_three max_four min_four   -- for this text's walks alone
set_option linter.unusedVariables false
set_option linter.unusedSimpArgs false
def errW : Option Int → Value
 | none => .nilIface
 | some c => .iface 0 (.int .i64 c)
theorem errW_none : errW none = .nilIface := rfl
theorem errW_some (c : Int) : errW (some c) = .iface 0 (.int .i64 c) := rfl
theorem info3 : (Tryz.prog.info? 3).map (fun i => (i.zero, i.size, i.bytes)) = some (some (.int .i64 0), 1, 8) := by kernel_rfl
theorem info5 : (Tryz.prog.info? 5).map (fun i => (i.zero, i.size, i.bytes)) = some (some (.int .u8 0), 1, 1) := by kernel_rfl
theorem info65 : (Tryz.prog.info? 65).map (fun i => (i.zero, i.size, i.bytes)) = some (some (.agg #[(.string ⟨#[]⟩), (.string ⟨#[]⟩)]), 2, 32) := by kernel_rfl
structure S23 where
 f0 : Int
 f1 : Int
def z23 : S23 := ⟨(0 : Int), (0 : Int)⟩
def k23 : Kd S23 := Kd.iso (Kd.pair (Kd.int .i64) (Kd.int .i64)) (fun x : S23 => (x.f0, x.f1))
theorem k23_open {w : World} {x : S23} {cs : List Value} (h : k23.K w x cs) : cs = [.int .i64 x.f0, .int .i64 x.f1] := by
 obtain ⟨_, _, rfl, rfl, rfl⟩ := h
 exact rfl
theorem k23_mk (w : World) (x : S23)  : k23.K w x [.int .i64 x.f0, .int .i64 x.f1] := ⟨[.int .i64 x.f0], [.int .i64 x.f1], rfl, rfl, rfl⟩
structure S65 where
 f0 : ByteArray
 f1 : ByteArray
def z65 : S65 := ⟨(⟨#[]⟩ : ByteArray), (⟨#[]⟩ : ByteArray)⟩
def k65 : Kd S65 := Kd.iso (Kd.pair Kd.string Kd.string) (fun x : S65 => (x.f0, x.f1))
theorem k65_open {w : World} {x : S65} {cs : List Value} (h : k65.K w x cs) : cs = [.string x.f0, .string x.f1] := by
 obtain ⟨_, _, rfl, rfl, rfl⟩ := h
 exact rfl
theorem k65_mk (w : World) (x : S65)  : k65.K w x [.string x.f0, .string x.f1] := ⟨[.string x.f0], [.string x.f1], rfl, rfl, rfl⟩
theorem k65_mkM (w : World) (base : Nat) (ok : Nat → Prop) (x : S65)  : k65.M w base ok x [.string x.f0, .string x.f1] := ⟨[.string x.f0], [.string x.f1], rfl, rfl, rfl⟩
def rd_T65 (xs : List S65) (i : Int) : S65 := xs.getD i.toNat z65
theorem at_T65 {w : World} {A : Option Addr} {n : Nat} {xs : List S65} (h : Kd.C k65 w A n xs) (i : Int) (h0 : 0 ≤ i) (h1 : i < n) : ∃ ad , A = some ad ∧ w.cell? (ad.add (i.toNat * 2)) = some (.string (rd_T65 xs i).f0) ∧ w.cell? ⟨(ad.add (i.toNat * 2)).block, (ad.add (i.toNat * 2)).off + 1, none⟩ = some (.string (rd_T65 xs i).f1) := by
 obtain ⟨ad, c, e, _, hK, hc0⟩ := Kd.C_get h z65 i h0 h1
 have hc : ∀ j u, c[j]? = some u → w.cell? (ad.add (i.toNat * 2 + j)) = some u := hc0
 obtain rfl := k65_open hK
 exact ⟨ad, e, hc 0 _ rfl, by rw [← add_field _ _ 1 (by omega)]; exact hc 1 _ rfl⟩
structure S26 where
 f0 : Int
 f1 : ByteArray
 f2 : ByteArray
 f3 : Int
 f4 : Int
 f5 : Int
 f6 : Int
 f7 : S23
 f8 : ByteArray
 f9 : ByteArray
 f10 : Int
 f11 : Int
 f12 : (List S65)
def z26 : S26 := ⟨(0 : Int), (⟨#[]⟩ : ByteArray), (⟨#[]⟩ : ByteArray), (0 : Int), (0 : Int), (0 : Int), (0 : Int), z23, (⟨#[]⟩ : ByteArray), (⟨#[]⟩ : ByteArray), (0 : Int), (0 : Int), ([] : List S65)⟩
def k26 : Kd S26 := Kd.iso (Kd.pair (Kd.int .i64) (Kd.pair Kd.string (Kd.pair Kd.string (Kd.pair (Kd.int .i64) (Kd.pair (Kd.int .i64) (Kd.pair (Kd.int .i64) (Kd.pair (Kd.int .i64) (Kd.pair k23 (Kd.pair Kd.string (Kd.pair Kd.string (Kd.pair (Kd.int .i64) (Kd.pair (Kd.int .i64) (Kd.slice 65 k65))))))))))))) (fun x : S26 => (x.f0, x.f1, x.f2, x.f3, x.f4, x.f5, x.f6, x.f7, x.f8, x.f9, x.f10, x.f11, x.f12))
theorem k26_open {w : World} {x : S26} {cs : List Value} (h : k26.K w x cs) : ∃ A13 c13, cs = [.int .i64 x.f0, .string x.f1, .string x.f2, .int .i64 x.f3, .int .i64 x.f4, .int .i64 x.f5, .int .i64 x.f6, .int .i64 x.f7.f0, .int .i64 x.f7.f1, .string x.f8, .string x.f9, .int .i64 x.f10, .int .i64 x.f11, .slice A13 x.f12.length c13] ∧ x.f12.length ≤ c13 ∧ k65.C w A13 x.f12.length x.f12 := by
 obtain ⟨_, _, rfl, rfl, ⟨_, _, rfl, rfl, ⟨_, _, rfl, rfl, ⟨_, _, rfl, rfl, ⟨_, _, rfl, rfl, ⟨_, _, rfl, rfl, ⟨_, _, rfl, rfl, ⟨_, _, rfl, s7, ⟨_, _, rfl, rfl, ⟨_, _, rfl, rfl, ⟨_, _, rfl, rfl, ⟨_, _, rfl, rfl, ⟨A13, c13, rfl, l13, g13⟩⟩⟩⟩⟩⟩⟩⟩⟩⟩⟩⟩⟩ := h
 obtain rfl := k23_open s7
 exact ⟨A13, c13, rfl, l13, g13⟩
theorem k26_mk (w : World) (x : S26) {A13 : Option Addr} {c13 : Nat} (l13 : x.f12.length ≤ c13) (g13 : k65.C w A13 x.f12.length x.f12) : k26.K w x [.int .i64 x.f0, .string x.f1, .string x.f2, .int .i64 x.f3, .int .i64 x.f4, .int .i64 x.f5, .int .i64 x.f6, .int .i64 x.f7.f0, .int .i64 x.f7.f1, .string x.f8, .string x.f9, .int .i64 x.f10, .int .i64 x.f11, .slice A13 x.f12.length c13] := ⟨[.int .i64 x.f0], [.string x.f1, .string x.f2, .int .i64 x.f3, .int .i64 x.f4, .int .i64 x.f5, .int .i64 x.f6, .int .i64 x.f7.f0, .int .i64 x.f7.f1, .string x.f8, .string x.f9, .int .i64 x.f10, .int .i64 x.f11, .slice A13 x.f12.length c13], rfl, rfl, ⟨[.string x.f1], [.string x.f2, .int .i64 x.f3, .int .i64 x.f4, .int .i64 x.f5, .int .i64 x.f6, .int .i64 x.f7.f0, .int .i64 x.f7.f1, .string x.f8, .string x.f9, .int .i64 x.f10, .int .i64 x.f11, .slice A13 x.f12.length c13], rfl, rfl, ⟨[.string x.f2], [.int .i64 x.f3, .int .i64 x.f4, .int .i64 x.f5, .int .i64 x.f6, .int .i64 x.f7.f0, .int .i64 x.f7.f1, .string x.f8, .string x.f9, .int .i64 x.f10, .int .i64 x.f11, .slice A13 x.f12.length c13], rfl, rfl, ⟨[.int .i64 x.f3], [.int .i64 x.f4, .int .i64 x.f5, .int .i64 x.f6, .int .i64 x.f7.f0, .int .i64 x.f7.f1, .string x.f8, .string x.f9, .int .i64 x.f10, .int .i64 x.f11, .slice A13 x.f12.length c13], rfl, rfl, ⟨[.int .i64 x.f4], [.int .i64 x.f5, .int .i64 x.f6, .int .i64 x.f7.f0, .int .i64 x.f7.f1, .string x.f8, .string x.f9, .int .i64 x.f10, .int .i64 x.f11, .slice A13 x.f12.length c13], rfl, rfl, ⟨[.int .i64 x.f5], [.int .i64 x.f6, .int .i64 x.f7.f0, .int .i64 x.f7.f1, .string x.f8, .string x.f9, .int .i64 x.f10, .int .i64 x.f11, .slice A13 x.f12.length c13], rfl, rfl, ⟨[.int .i64 x.f6], [.int .i64 x.f7.f0, .int .i64 x.f7.f1, .string x.f8, .string x.f9, .int .i64 x.f10, .int .i64 x.f11, .slice A13 x.f12.length c13], rfl, rfl, ⟨[.int .i64 x.f7.f0, .int .i64 x.f7.f1], [.string x.f8, .string x.f9, .int .i64 x.f10, .int .i64 x.f11, .slice A13 x.f12.length c13], rfl, (k23_mk w x.f7 ), ⟨[.string x.f8], [.string x.f9, .int .i64 x.f10, .int .i64 x.f11, .slice A13 x.f12.length c13], rfl, rfl, ⟨[.string x.f9], [.int .i64 x.f10, .int .i64 x.f11, .slice A13 x.f12.length c13], rfl, rfl, ⟨[.int .i64 x.f10], [.int .i64 x.f11, .slice A13 x.f12.length c13], rfl, rfl, ⟨[.int .i64 x.f11], [.slice A13 x.f12.length c13], rfl, rfl, ⟨A13, c13, rfl, l13, g13⟩⟩⟩⟩⟩⟩⟩⟩⟩⟩⟩⟩⟩
structure S29 where
 f0 : S26
 f1 : (List Int)
def z29 : S29 := ⟨z26, ([] : List Int)⟩
def k29 : Kd S29 := Kd.iso (Kd.pair k26 (Kd.slice 5 (Kd.int .u8))) (fun x : S29 => (x.f0, x.f1))
theorem k29_open {w : World} {x : S29} {cs : List Value} (h : k29.K w x cs) : ∃ A13 c13 A14 c14, cs = [.int .i64 x.f0.f0, .string x.f0.f1, .string x.f0.f2, .int .i64 x.f0.f3, .int .i64 x.f0.f4, .int .i64 x.f0.f5, .int .i64 x.f0.f6, .int .i64 x.f0.f7.f0, .int .i64 x.f0.f7.f1, .string x.f0.f8, .string x.f0.f9, .int .i64 x.f0.f10, .int .i64 x.f0.f11, .slice A13 x.f0.f12.length c13, .slice A14 x.f1.length c14] ∧ x.f0.f12.length ≤ c13 ∧ k65.C w A13 x.f0.f12.length x.f0.f12 ∧ x.f1.length ≤ c14 ∧ (Kd.int .u8).C w A14 x.f1.length x.f1 := by
 obtain ⟨_, _, rfl, s0, ⟨A14, c14, rfl, l14, g14⟩⟩ := h
 obtain ⟨A13, c13, rfl, l13, g13⟩ := k26_open s0
 exact ⟨A13, c13, A14, c14, rfl, l13, g13, l14, g14⟩
theorem k29_mk (w : World) (x : S29) {A13 : Option Addr} {c13 : Nat} (l13 : x.f0.f12.length ≤ c13) (g13 : k65.C w A13 x.f0.f12.length x.f0.f12) {A14 : Option Addr} {c14 : Nat} (l14 : x.f1.length ≤ c14) (g14 : (Kd.int .u8).C w A14 x.f1.length x.f1) : k29.K w x [.int .i64 x.f0.f0, .string x.f0.f1, .string x.f0.f2, .int .i64 x.f0.f3, .int .i64 x.f0.f4, .int .i64 x.f0.f5, .int .i64 x.f0.f6, .int .i64 x.f0.f7.f0, .int .i64 x.f0.f7.f1, .string x.f0.f8, .string x.f0.f9, .int .i64 x.f0.f10, .int .i64 x.f0.f11, .slice A13 x.f0.f12.length c13, .slice A14 x.f1.length c14] := ⟨[.int .i64 x.f0.f0, .string x.f0.f1, .string x.f0.f2, .int .i64 x.f0.f3, .int .i64 x.f0.f4, .int .i64 x.f0.f5, .int .i64 x.f0.f6, .int .i64 x.f0.f7.f0, .int .i64 x.f0.f7.f1, .string x.f0.f8, .string x.f0.f9, .int .i64 x.f0.f10, .int .i64 x.f0.f11, .slice A13 x.f0.f12.length c13], [.slice A14 x.f1.length c14], rfl, (k26_mk w x.f0 l13 g13), ⟨A14, c14, rfl, l14, g14⟩⟩
def rd_T29 (xs : List S29) (i : Int) : S29 := xs.getD i.toNat z29
theorem at_T29 {w : World} {A : Option Addr} {n : Nat} {xs : List S29} (h : Kd.C k29 w A n xs) (i : Int) (h0 : 0 ≤ i) (h1 : i < n) : ∃ ad A13 c13 A14 c14, A = some ad ∧ w.cell? (ad.add (i.toNat * 15)) = some (.int .i64 (rd_T29 xs i).f0.f0) ∧ w.cell? ⟨(ad.add (i.toNat * 15)).block, (ad.add (i.toNat * 15)).off + 1, none⟩ = some (.string (rd_T29 xs i).f0.f1) ∧ w.cell? ⟨(ad.add (i.toNat * 15)).block, (ad.add (i.toNat * 15)).off + 2, none⟩ = some (.string (rd_T29 xs i).f0.f2) ∧ w.cell? ⟨(ad.add (i.toNat * 15)).block, (ad.add (i.toNat * 15)).off + 3, none⟩ = some (.int .i64 (rd_T29 xs i).f0.f3) ∧ w.cell? ⟨(ad.add (i.toNat * 15)).block, (ad.add (i.toNat * 15)).off + 4, none⟩ = some (.int .i64 (rd_T29 xs i).f0.f4) ∧ w.cell? ⟨(ad.add (i.toNat * 15)).block, (ad.add (i.toNat * 15)).off + 5, none⟩ = some (.int .i64 (rd_T29 xs i).f0.f5) ∧ w.cell? ⟨(ad.add (i.toNat * 15)).block, (ad.add (i.toNat * 15)).off + 6, none⟩ = some (.int .i64 (rd_T29 xs i).f0.f6) ∧ w.cell? ⟨(ad.add (i.toNat * 15)).block, (ad.add (i.toNat * 15)).off + 7, none⟩ = some (.int .i64 (rd_T29 xs i).f0.f7.f0) ∧ w.cell? ⟨(ad.add (i.toNat * 15)).block, (ad.add (i.toNat * 15)).off + 8, none⟩ = some (.int .i64 (rd_T29 xs i).f0.f7.f1) ∧ w.cell? ⟨(ad.add (i.toNat * 15)).block, (ad.add (i.toNat * 15)).off + 9, none⟩ = some (.string (rd_T29 xs i).f0.f8) ∧ w.cell? ⟨(ad.add (i.toNat * 15)).block, (ad.add (i.toNat * 15)).off + 10, none⟩ = some (.string (rd_T29 xs i).f0.f9) ∧ w.cell? ⟨(ad.add (i.toNat * 15)).block, (ad.add (i.toNat * 15)).off + 11, none⟩ = some (.int .i64 (rd_T29 xs i).f0.f10) ∧ w.cell? ⟨(ad.add (i.toNat * 15)).block, (ad.add (i.toNat * 15)).off + 12, none⟩ = some (.int .i64 (rd_T29 xs i).f0.f11) ∧ w.cell? ⟨(ad.add (i.toNat * 15)).block, (ad.add (i.toNat * 15)).off + 13, none⟩ = some (.slice A13 (rd_T29 xs i).f0.f12.length c13) ∧ w.cell? ⟨(ad.add (i.toNat * 15)).block, (ad.add (i.toNat * 15)).off + 14, none⟩ = some (.slice A14 (rd_T29 xs i).f1.length c14) ∧ (rd_T29 xs i).f0.f12.length ≤ c13 ∧ k65.C w A13 (rd_T29 xs i).f0.f12.length (rd_T29 xs i).f0.f12 ∧ (rd_T29 xs i).f1.length ≤ c14 ∧ (Kd.int .u8).C w A14 (rd_T29 xs i).f1.length (rd_T29 xs i).f1 := by
 obtain ⟨ad, c, e, _, hK, hc0⟩ := Kd.C_get h z29 i h0 h1
 have hc : ∀ j u, c[j]? = some u → w.cell? (ad.add (i.toNat * 15 + j)) = some u := hc0
 obtain ⟨A13, c13, A14, c14, rfl, l13, g13, l14, g14⟩ := k29_open hK
 exact ⟨ad, A13, c13, A14, c14, e, hc 0 _ rfl, by rw [← add_field _ _ 1 (by omega)]; exact hc 1 _ rfl, by rw [← add_field _ _ 2 (by omega)]; exact hc 2 _ rfl, by rw [← add_field _ _ 3 (by omega)]; exact hc 3 _ rfl, by rw [← add_field _ _ 4 (by omega)]; exact hc 4 _ rfl, by rw [← add_field _ _ 5 (by omega)]; exact hc 5 _ rfl, by rw [← add_field _ _ 6 (by omega)]; exact hc 6 _ rfl, by rw [← add_field _ _ 7 (by omega)]; exact hc 7 _ rfl, by rw [← add_field _ _ 8 (by omega)]; exact hc 8 _ rfl, by rw [← add_field _ _ 9 (by omega)]; exact hc 9 _ rfl, by rw [← add_field _ _ 10 (by omega)]; exact hc 10 _ rfl, by rw [← add_field _ _ 11 (by omega)]; exact hc 11 _ rfl, by rw [← add_field _ _ 12 (by omega)]; exact hc 12 _ rfl, by rw [← add_field _ _ 13 (by omega)]; exact hc 13 _ rfl, by rw [← add_field _ _ 14 (by omega)]; exact hc 14 _ rfl, l13, g13, l14, g14⟩
structure S71 where
 f0 : Int
 f1 : Int
 f2 : Int
 f3 : Int
 f4 : Int
 f5 : Int
structure S79 where
 f0 : Int
 f1 : Int
 f2 : Int
 f3 : Int
 f4 : Int
 f5 : Int
end Go.Proofs.YtejdmofljifkbaaGreatDoor.P
namespace Go.Proofs.YtejdmofljifkbaaGreatDoor.P
open Go.RowKit Go.Proofs.YtejdmofljifkbaaGreatDoorW.PrintWords Go.Proofs.YtejdmofljifkbaaGreatDoorW.PrintLast Go.Proofs.YtejdmofljifkbaaGreatDoorW.PrintMore
section
variable {P : Program} {ops : Array Oper} {md : Region.Mode} {Q : Exit → Act → World → Prop} {S : World → Prop} {ds : List Nat} {T : Bool × List (List Nat × List Nat)} {B : List Nat} {oi : Oper} {v : Value} {fuel : Nat} {l : Array Bool} {a a' : Act} {w : World}
def Zb (n m : Nat) : Array Bool := ((List.range n).map fun i => m.testBit i).toArray
theorem Zp (i : Nat) (N : Tmp) (l' : Array Bool) (hT : Aside0 (rtab md ops = T)) (h : wpAnyLast P md ops Q S ds fuel l' a' w)
  (hi : ops[i]? = some oi := by exact rfl) (hN : oi.dst = some N := by exact rfl) (hc : anyT T l.toList l'.toList i = true := by kernel_rfl)
  (hQ : ∀ c a w, Q (.panic c) (a.put oi.dst v) w → Q (.panic c) a w := by exact fun _ _ _ h => h)
  (hg : Region.wanted oi (yielded ops a.tmps) = true := by rfl) (hy : ∀ w, (execOp a.eval oi).run P w = .ok (.value v) w := by intro w'; go_simp; with_reducible rfl)
  (ha : a.put (some N) v = a' := by simp only [Act.put, List.setIfInBounds_toArray, List.set_cons_zero, List.set_cons_succ, i64_w, i32_w]; rfl) : wpAnyLast P md ops Q S ds (fuel + 1) l a w :=
 pure_ l' hi hN (any_of hT.out hc) hQ (Or.inl ⟨hg, hy⟩) ha h
theorem Zu (i : Nat) (N : Tmp) (l' : Array Bool) (hT : Aside0 (rtab md ops = T)) (h : wpAnyLast P md ops Q S ds fuel l' a' w)
  (hi : ops[i]? = some oi := by exact rfl) (hN : oi.dst = some N := by exact rfl) (hc : anyT T l.toList l'.toList i = true := by kernel_rfl)
  (hQ : ∀ c a w, Q (.panic c) (a.put oi.dst undef) w → Q (.panic c) a w := by exact fun _ _ _ h => h)
  (hg : Region.wanted oi (yielded ops a.tmps) = false := by rfl)
  (ha : a.put (some N) undef = a' := by simp only [Act.put, List.setIfInBounds_toArray, List.set_cons_zero, List.set_cons_succ, i64_w, i32_w]; rfl) : wpAnyLast P md ops Q S ds (fuel + 1) l a w :=
 pure_ l' hi hN (any_of hT.out hc) hQ (Or.inr ⟨hg, rfl⟩) ha h
theorem Zt (i : Nat) (N : Tmp) (l' : Array Bool) (hT : Aside0 (rtab md ops = T)) (hW : Aside0 (waitsOk T.2 B = true)) (hS : S w) (h : wpAnyLast P md ops Q S ds fuel l' a' w)
  (hi : ops[i]? = some oi := by exact rfl) (hN : oi.dst = some N := by exact rfl) (hc : takeW T B ds l.toList l'.toList i = true := by kernel_rfl)
  (hQ : ∀ c a w, Q (.panic c) (a.put oi.dst v) w → Q (.panic c) a w := by exact fun _ _ _ h => h)
  (hg : Region.wanted oi (yielded ops a.tmps) = true := by rfl) (hy : ∀ w, S w → (execOp a.eval oi).run P w = .ok (.value v) w := by intro w' s; (try dsimp only at s); go_simp; with_reducible rfl)
  (ha : a.put (some N) v = a' := by simp only [Act.put, List.setIfInBounds_toArray, List.set_cons_zero, List.set_cons_succ, i64_w, i32_w]; rfl) : wpAnyLast P md ops Q S ds (fuel + 1) l a w :=
 take_ l' hi hN (take_ofW hT.out hW.out hc) hQ (Or.inl ⟨hg, hy⟩) hS ha h
theorem Zo (i : Nat) (N : Tmp) (l' : Array Bool) (hT : Aside0 (rtab md ops = T))
  (h : ∀ K : Act → World → Prop, Shut (∀ a' w', S w' → (S w' → wpAnyLast P md ops Q S ds fuel l' a' w') → K a' w') → if Region.wanted oi (yielded ops a.tmps) = true then Oper.wp P oi a w K Q else K (a.put (some N) undef) w)
  (hi : ops[i]? = some oi := by exact rfl) (hN : oi.dst = some N := by exact rfl) (hc : (readyT T.2 l.toList == [i] && l.toList.set i true == l'.toList) = true := by kernel_rfl) (hd : i ∉ ds := by decide) : wpAnyLast P md ops Q S ds (fuel + 1) l a w :=
 one_ l' hi hN (one_of hT.out hc) hd h
theorem Zn (h : wpAnyLast P md ops Q S ds fuel l a' w) (ha : a = a' := by show Act.put _ (some _) _ = _; simp only [Act.put, List.setIfInBounds_toArray, List.set_cons_zero, List.set_cons_succ, i64_w, i32_w]; rfl) : wpAnyLast P md ops Q S ds fuel l a w := norm_ ha h
theorem Zg {N : Option Tmp} {K : Act → World → Prop} {f : FuncId} {fn : Func} {os : Array Operand} {ts : Array TypeId} (hf : P.funcs[f]? = some fn) (args : Array Value)
  (h : Calls P f args w fun e w' => ∃ v, e = .returned v ∧ K (a.put N v) w') (hname : (fn.name == "runtime.NumGoroutine") = false := by kernel_rfl) (hb : fn.body.isSome = true := by exact rfl)
  (hw : Region.wanted oi (yielded ops a.tmps) = true := by rfl) (hN : oi.dst = N := by exact rfl) (hop : oi.op = .call { callee := .value (.func f), args := os, argTypes := ts } := by exact rfl)
  (hargs : os.map a.eval = args := by (try simp only [List.map_toArray, List.map_cons, List.map_nil]); first | done | rfl | (simp only [List.length_drop, List.length_take]; rfl)) :
  if Region.wanted oi (yielded ops a.tmps) = true then Oper.wp P oi a w K Q else K (a.put N undef) w := goes_ hf hname hb args hw hN hop hargs h
theorem Zq (hT : Aside0 (rtab md ops = T)) (h : Q .normal a w) (hr : (readyT T.2 l.toList == []) = true := by kernel_rfl) {n : Nat} : wpAnyLast P md ops Q S ds n l a w := done_ (done_of hT.out hr) h
end
section
variable {w W W0 W1 : World} {g : Nat} {o : Obj}
theorem Zh (hb : Aside0 (Below w.heap.size w W0)) (hx : Below w.heap.size w W0 → Below w.heap.size w W := by intro h; repeat (first | (with_reducible first | exact h | apply below_alloc | apply pw_below_drewN | apply below_drew1) | exact h)) : Below w.heap.size w W := hx hb.out
theorem Zhg (hb : Aside0 (Below w.heap.size w W0)) (ge : Aside0 (w.heap.size ≤ g)) (hx : w.heap.size ≤ g → Below w.heap.size w W0 → Below w.heap.size w W := by intro ge h; repeat (first | (with_reducible first | exact h | apply below_alloc | apply pw_below_drewN | apply below_drew1 | refine below_set ?_ ge) | exact h)) : Below w.heap.size w W := hx ge.out hb.out
theorem Zs (hb : Aside0 (Below w.heap.size w W0)) (k : Below W.heap.size W W1) (hx : Below w.heap.size w W0 → Below w.heap.size w W := by intro h; repeat (first | (with_reducible first | exact h | apply below_alloc | apply pw_below_drewN | apply below_drew1) | exact h)) : Aside0 (Below w.heap.size w W1) := ⟨below_step (hx hb.out) k⟩
theorem Zsg (hb : Aside0 (Below w.heap.size w W0)) (ge : Aside0 (w.heap.size ≤ g)) (k : Below W.heap.size W W1) (hx : w.heap.size ≤ g → Below w.heap.size w W0 → Below w.heap.size w W := by intro ge h; repeat (first | (with_reducible first | exact h | apply below_alloc | apply pw_below_drewN | apply below_drew1 | refine below_set ?_ ge) | exact h)) : Aside0 (Below w.heap.size w W1) := ⟨below_step (hx ge.out hb.out) k⟩
theorem Zw (hb : Aside0 (W0.heap[g]? = some o)) (hx : W0.heap[g]? = some o → W.heap[g]? = some o := by intro h; (with_reducible repeat (first | refine blk_drewN ?_ _ | refine blk_drew ?_ | refine blk_alloc ?_ _)); exact h) : W.heap[g]? = some o := hx hb.out
theorem Zx (hb : Aside0 (W0.heap[g]? = some o)) (k : Below W.heap.size W W1) (hx : W0.heap[g]? = some o → W.heap[g]? = some o := by intro h; (with_reducible repeat (first | refine blk_drewN ?_ _ | refine blk_drew ?_ | refine blk_alloc ?_ _)); exact h) : Aside0 (W1.heap[g]? = some o) := ⟨blk_below (hx hb.out) k⟩
theorem ZG (hG : Aside0 (Glob w)) (hb : Aside0 (Below w.heap.size w W0)) (hx : Below w.heap.size w W0 → Below w.heap.size w W := by intro h; repeat (first | (with_reducible first | exact h | apply below_alloc | apply pw_below_drewN | apply below_drew1) | exact h)) : Glob W := Glob.below hG.out (hx hb.out)
theorem ZGg (hG : Aside0 (Glob w)) (hb : Aside0 (Below w.heap.size w W0)) (ge : Aside0 (w.heap.size ≤ g)) (hx : w.heap.size ≤ g → Below w.heap.size w W0 → Below w.heap.size w W := by intro ge h; repeat (first | (with_reducible first | exact h | apply below_alloc | apply pw_below_drewN | apply below_drew1 | refine below_set ?_ ge) | exact h)) : Glob W := Glob.below hG.out (hx ge.out hb.out)
theorem Zd (h : Drawn0 w W := by repeat (first | exact Drawn0.refl _ | apply Drawn0.step)) : Drawn0 w W := h
theorem Zc2 {t : TypeId} {v0 v1 : Value} (h : w.heap[g]? = some (.cells #[v0, v1] t (0, 0))) : w.cell? ⟨g, 0, none⟩ = some v0 ∧ w.cell? ⟨g, 1, none⟩ = some v1 := ⟨blk_cell h 0, blk_cell h 1⟩
theorem Zc6 {t : TypeId} {v0 v1 v2 v3 v4 v5 : Value} (h : w.heap[g]? = some (.cells #[v0, v1, v2, v3, v4, v5] t (0, 0))) : w.cell? ⟨g, 0, none⟩ = some v0 ∧ w.cell? ⟨g, 1, none⟩ = some v1 ∧ w.cell? ⟨g, 2, none⟩ = some v2 ∧ w.cell? ⟨g, 3, none⟩ = some v3 ∧ w.cell? ⟨g, 4, none⟩ = some v4 ∧ w.cell? ⟨g, 5, none⟩ = some v5 := ⟨blk_cell h 0, blk_cell h 1, blk_cell h 2, blk_cell h 3, blk_cell h 4, blk_cell h 5⟩
theorem Zc14 {t : TypeId} {v0 v1 v2 v3 v4 v5 v6 v7 v8 v9 v10 v11 v12 v13 : Value} (h : w.heap[g]? = some (.cells #[v0, v1, v2, v3, v4, v5, v6, v7, v8, v9, v10, v11, v12, v13] t (0, 0))) : w.cell? ⟨g, 0, none⟩ = some v0 ∧ w.cell? ⟨g, 1, none⟩ = some v1 ∧ w.cell? ⟨g, 2, none⟩ = some v2 ∧ w.cell? ⟨g, 3, none⟩ = some v3 ∧ w.cell? ⟨g, 4, none⟩ = some v4 ∧ w.cell? ⟨g, 5, none⟩ = some v5 ∧ w.cell? ⟨g, 6, none⟩ = some v6 ∧ w.cell? ⟨g, 7, none⟩ = some v7 ∧ w.cell? ⟨g, 8, none⟩ = some v8 ∧ w.cell? ⟨g, 9, none⟩ = some v9 ∧ w.cell? ⟨g, 10, none⟩ = some v10 ∧ w.cell? ⟨g, 11, none⟩ = some v11 ∧ w.cell? ⟨g, 12, none⟩ = some v12 ∧ w.cell? ⟨g, 13, none⟩ = some v13 := ⟨blk_cell h 0, blk_cell h 1, blk_cell h 2, blk_cell h 3, blk_cell h 4, blk_cell h 5, blk_cell h 6, blk_cell h 7, blk_cell h 8, blk_cell h 9, blk_cell h 10, blk_cell h 11, blk_cell h 12, blk_cell h 13⟩
end
section
variable {p : Prop}
theorem Ze (h : p := by first | rfl | (simp [errW_none, errW_some] <;> rfl) | (simp [*, errW_none, errW_some] <;> rfl) | (simp [nil_bne]; done) | (simp [*, nil_bne]; done)) : p := h
theorem Zr (h : p := by first | rfl | (simp; done) | (simp [*]; done) | (simp [nil_bne]; done) | (simp [*, nil_bne]; done)) : p := h
theorem Zy (h : p := by first | (with_reducible assumption) | assumption) : p := h
theorem Zl (h : p := by first | omega | exact Nat.le_refl _) : Aside0 p := ⟨h⟩
theorem Zm {q : Prop} (hq : Aside0 q) (h : q → p := by intro h; first | omega | exact Nat.le_refl _) : Aside0 p := ⟨h hq.out⟩
theorem Zv (h : p := by (try simp only [List.map_toArray, List.map_cons, List.map_nil]); first | done | rfl | (simp only [List.length_drop, List.length_take]; rfl)) : p := h
theorem Zf {α : Type} {a b : α} : (if false = true then a else b) = b := if_neg (show ¬ (false = true) by decide)
theorem Zk {α β : Type} {o : Option α} {f : α → Option β} {r : β} (h : o.bind f = some r) : ∃ a, o = some a ∧ f a = some r := Option.bind_eq_some_iff.mp h
end
end Go.Proofs.YtejdmofljifkbaaGreatDoor.P
namespace Go.Proofs.YtejdmofljifkbaaGreatDoor
open Go.RowKit Go.Proofs.YtejdmofljifkbaaGreatDoorW.PrintWords
structure Pos (s : ByteArray) (n : Nat) (l : List UInt8) : Prop where
 dr : s.data.toList.drop n = l
 le : n ≤ s.size
section
variable {s : ByteArray} {n : Nat} {l t : List UInt8} {c d : UInt8}
theorem Pos.len (h : Pos s n l) : n + l.length = s.size := by
 have h1 := h.le
 rw [← h.dr, List.length_drop, data_length]
 omega
theorem Pos.lt (h : Pos s n (c :: t)) : n < s.size := by have := h.len; simp at this; omega
theorem Pos.at (h : Pos s n (c :: t)) (hn : n < s.size) : s[n]'hn = c := by
 have h1 : s.data.toList[n]? = some c := by
  have := congrArg (fun l : List UInt8 => l[0]?) h.dr
  simpa using this
 rw [List.getElem?_eq_getElem (by rw [data_length]; exact hn)] at h1
 injection h1
theorem Pos.next (h : Pos s n (c :: t)) : Pos s (n + 1) t := by
 refine ⟨?_, h.lt⟩
 have := congrArg List.tail h.dr
 rw [List.tail_drop] at this
 exact this
theorem Pos.bt (h : Pos s n (c :: t)) : bt s (n : Int) = (c.toNat : Int) := by
 rw [← bt_at s (n : Int) (by have := h.lt; simpa using this)]
 have := h.at h.lt
 simp only [Int.toNat_natCast]
 rw [this]
theorem Pos.zero (s : ByteArray) : Pos s 0 s.data.toList := ⟨rfl, Nat.zero_le _⟩
end
theorem tx_data (l : List UInt8) : (tx l).data.toList = l := by simp [tx]
theorem tx_size (l : List UInt8) : (tx l).size = l.length := by rw [← data_length, tx_data]
theorem tx_of (s : ByteArray) : tx s.data.toList = s := by
 apply ByteArray.ext
 simp [tx]
theorem tx_app (a b : List UInt8) : tx a ++ tx b = tx (a ++ b) := by
 apply ByteArray.ext
 rw [ByteArray.data_append]
 simp [tx]
theorem toList_tx (l : List UInt8) : (tx l).toList = l := by rw [Lib.toList_data, tx_data]
theorem extract_tx (l : List UInt8) (a b : Nat) : (tx l).extract a b = tx ((l.take b).drop a) := by
 apply ByteArray.ext
 rw [ByteArray.data_extract]
 apply Array.ext'
 rw [Array.toList_extract]
 simp only [tx, List.take_drop]
 by_cases h : a ≤ b
 ·rw [show a + (b - a) = b by omega]
 ·rw [List.drop_eq_nil_of_le (by simp; omega), List.drop_eq_nil_of_le (by simp; omega)]
theorem ext_data {a b : ByteArray} (h : a.data.toList = b.data.toList) : a = b := by
 apply ByteArray.ext
 exact Array.ext' h
theorem w64n (n : Nat) (h : n ≤ 9223372036854775807) : wrap64 (n : Int) = (n : Int) := by unfold wrap64; omega
def digL (l : List UInt8) : Bool := l.all fun c => decide (48 ≤ c.toNat) && decide (c.toNat ≤ 57)
theorem quiet_add_same {P : Program} {f : FuncId} {args : Array Value} {w : World} {a n : Nat} {v : Value}
  (h : Calls P f args (w.drewN (a + n)) fun e w' => e = .returned v ∧ w' = w.drewN (a + n)) :
  Calls P f args (w.drewN (a + n)) fun e w'' => e = .returned v ∧ ∃ m, w'' = w.drewN (a + m) :=
 h.mono fun _ _ ⟨he, hm⟩ => ⟨he, n, hm⟩
end Go.Proofs.YtejdmofljifkbaaGreatDoor
namespace Go.Proofs.YtejdmofljifkbaaGreatDoor.Sig
def kc (k : Int) : UInt8 := if 1 ≤ k ∧ k ≤ 7 then [63, 45, 104, 108, 99, 98, 100, 112].getD k.toNat 63 else 63
def nn (m : Int) : Nat := (m % 4096).toNat
def bi (n i : Nat) : Bool := n / 2 ^ i % 2 == 1
def sg0 (n i : Nat) : UInt8 := if bi n (8 - i) then [114, 119, 120].getD (i % 3) 0 else 45
def sg (n i : Nat) : UInt8 :=
 if i % 3 = 2 ∧ bi n (11 - i / 3) = true then (if bi n (8 - i) then [115, 115, 116].getD (i / 3) 0 else [83, 83, 84].getD (i / 3) 0) else sg0 n i
def body (n : Nat) : List UInt8 := (List.range 9).map (sg n)
def sgl (k m : Int) : List UInt8 := kc k :: body (nn m)
def add (i : Nat) (c : UInt8) : Nat :=
 if c = 120 ∨ c = 119 ∨ c = 114 then 2 ^ (9 - i) else if c = 115 ∨ c = 116 then 2 ^ (9 - i) ||| 2 ^ (12 - i / 3) else if c = 83 ∨ c = 84 then 2 ^ (12 - i / 3) else 0
theorem body_len (n : Nat) : (body n).length = 9 := by simp [body]
theorem sgl_len (k m : Int) : (sgl k m).length = 10 := by simp [sgl, body_len]
theorem kc_out (k : Int) (h : ¬ (1 ≤ k ∧ k ≤ 7)) : kc k = 63 := by unfold kc; rw [if_neg h]
theorem kc_of (k : Int) (h : 1 ≤ k ∧ k ≤ 7) : k = 1 ∨ k = 2 ∨ k = 3 ∨ k = 4 ∨ k = 5 ∨ k = 6 ∨ k = 7 := by omega
def kn (k : Int) : Int := if 1 ≤ k ∧ k ≤ 7 then k else 0
end Go.Proofs.YtejdmofljifkbaaGreatDoor.Sig
namespace Go.Proofs.YtejdmofljifkbaaGreatDoor.Sg
open Go.RowKit Go.Proofs.YtejdmofljifkbaaGreatDoorW.PrintWords Go.Proofs.YtejdmofljifkbaaGreatDoorW.PrintLast Go.Proofs.YtejdmofljifkbaaGreatDoorW.PrintMore
open Go.Proofs.YtejdmofljifkbaaGreatDoor.Sig
theorem info5 : (Tryz.prog.info? 5).map (fun i => (i.zero, i.size, i.bytes)) = some (some (.int .u8 0), 1, 1) := by kernel_rfl
theorem i64_and1 (x : Int) : bits .and .i64 x 1 = x % 2 := by
 show IntKind.i64.wrap ((BitVec.ofInt 64 x &&& BitVec.ofInt 64 1).toNat : Int) = _
 rw [BitVec.toNat_and, BitVec.toNat_ofInt]
 have h1 : (BitVec.ofInt 64 1).toNat = 1 := by decide
 rw [h1, nat_mask1, IntKind.wrap_i64]
 omega
theorem emod_bit (m : Int) (i d : Nat) : (m % (2 ^ (i + d + 1) : Nat)) / (2 ^ i : Nat) % 2 = m / (2 ^ i : Nat) % 2 := by
 have e : ((2 ^ (i + d + 1) : Nat) : Int) = ((2 ^ i : Nat) : Int) * (2 * ((2 ^ d : Nat) : Int)) := by
  rw [show 2 ^ (i + d + 1) = 2 ^ i * (2 * 2 ^ d) from by rw [Nat.pow_succ, Nat.pow_add, Nat.mul_assoc, Nat.mul_comm (2 ^ d) 2]]
  simp
 have hp : (0 : Int) < ((2 ^ i : Nat) : Int) := by exact_mod_cast Nat.two_pow_pos i
 have hm : m % ((2 ^ (i + d + 1) : Nat) : Int) = m - ((2 ^ i : Nat) : Int) * (2 * ((2 ^ d : Nat) : Int) * (m / ((2 ^ (i + d + 1) : Nat) : Int))) := by
  rw [Int.emod_def, e, Int.mul_assoc]
 rw [hm, Int.sub_eq_add_neg, ← Int.mul_neg, Int.add_mul_ediv_left _ _ (by omega)]
 rw [Int.mul_assoc, ← Int.mul_neg, Int.add_mul_emod_self_left]
theorem bit_of (m : Int) (i : Nat) (hi : i < 12) : (bits .and .i64 (m / 2 ^ i) 1 == 1) = bi (nn m) i := by
 rw [i64_and1]
 unfold bi nn
 have h := emod_bit m i (11 - i)
 rw [show i + (11 - i) + 1 = 12 from by omega] at h
 have e2 : ((2 ^ i : Nat) : Int) = (2 : Int) ^ i := by simp
 rw [e2] at h
 rw [← h]
 have h0 : 0 ≤ m % 4096 := by omega
 obtain ⟨q, hq⟩ := Int.eq_ofNat_of_zero_le h0
 rw [show ((2 ^ 12 : Nat) : Int) = 4096 from rfl, hq, Int.toNat_natCast, ← e2]
 have : ((q : Int) / ((2 ^ i : Nat) : Int) % 2) = ((q / 2 ^ i % 2 : Nat) : Int) := by simp
 rw [this]
 rw [Bool.eq_iff_iff]
 simp only [beq_iff_eq]
 omega
theorem bit_of0 (m : Int) (i : Nat) (hi : i < 12) : (bits .and .i64 (m / 2 ^ i) 1 == 0) = !bi (nn m) i := by
 rw [← bit_of m i hi, i64_and1]
 have : m / 2 ^ i % 2 = 0 ∨ m / 2 ^ i % 2 = 1 := by omega
 rcases this with h | h <;> rw [h] <;> rfl
def pre (k m : Int) (j : Nat) : List Int := ((kc k).toNat : Int) :: ((List.range j).map fun i => ((sg0 (nn m) i).toNat : Int))
theorem pre_succ (k m : Int) (j : Nat) : pre k m (j + 1) = pre k m j ++ [((sg0 (nn m) j).toNat : Int)] := by simp [pre, List.range_succ]
theorem pre_len (k m : Int) (j : Nat) : (pre k m j).length = j + 1 := by simp [pre]
def mid (k m : Int) (i : Nat) : List Int := ((kc k).toNat : Int) :: ((List.range 9).map fun p => ((if p / 3 < i then sg (nn m) p else sg0 (nn m) p).toNat : Int))
theorem mid_len (k m : Int) (j : Nat) : (mid k m j).length = 10 := by simp [mid]
theorem mid_zero (k m : Int) : mid k m 0 = pre k m 9 := by simp [mid, pre]
theorem mid_off (k m : Int) (i : Nat) (hi : i < 3) (h : bi (nn m) (11 - i) = false) : mid k m (i + 1) = mid k m i := by
 have hc : i = 0 ∨ i = 1 ∨ i = 2 := by omega
 rcases hc with rfl | rfl | rfl <;> simp [mid, sg, List.range_succ] at h ⊢ <;> simp [h]
def onc (n i : Nat) : Int := if bi n (8 - (3 * i + 2)) then (([115, 115, 116].getD i 0 : Nat) : Int) else (([83, 83, 84].getD i 0 : Nat) : Int)
theorem mid_on (k m : Int) (i : Nat) (hi : i < 3) (h : bi (nn m) (11 - i) = true) : mid k m (i + 1) = (mid k m i).set (3 * i + 3) (onc (nn m) i) := by
 have hc : i = 0 ∨ i = 1 ∨ i = 2 := by omega
 rcases hc with rfl | rfl | rfl <;> simp [mid, sg, onc, List.range_succ] at h ⊢ <;> simp [h] <;> split <;> simp_all
theorem mid_at (k m : Int) (i : Nat) (hi : i < 3) : (mid k m i).getD (3 * i + 3) 0 = if bi (nn m) (8 - (3 * i + 2)) then 120 else 45 := by
 have hc : i = 0 ∨ i = 1 ∨ i = 2 := by omega
 rcases hc with rfl | rfl | rfl <;> simp [mid, sg0, List.range_succ] <;> split <;> rfl
theorem mid_end (k m : Int) : mid k m 3 = (sgl k m).map fun c => (c.toNat : Int) := by
 simp [mid, sgl, body, List.range_succ]
theorem str_sgl (l : List UInt8) : strOfNums (l.map fun c => (c.toNat : Int)) = ⟨l.toArray⟩ := by
 unfold strOfNums
 rw [List.map_map]
 congr 2
 exact (List.map_congr_left (fun c _ => by simp)).trans (List.map_id l)
theorem kinds_at (k : Int) (h : 0 ≤ k ∧ k ≤ 7) : ∀ h : (k).toNat < (⟨#[63, 45, 104, 108, 99, 98, 100, 112]⟩ : ByteArray).size, (((⟨#[63, 45, 104, 108, 99, 98, 100, 112]⟩ : ByteArray)[k.toNat]'h).toNat : Int) = ((kc k).toNat : Int) := by
 have hc : k = 0 ∨ k = 1 ∨ k = 2 ∨ k = 3 ∨ k = 4 ∨ k = 5 ∨ k = 6 ∨ k = 7 := by omega
 rcases hc with rfl | rfl | rfl | rfl | rfl | rfl | rfl | rfl <;> intro h <;> rfl
theorem kc_kn (k : Int) : kc (kn k) = kc k := by
 unfold kn
 split
 ·rfl
 ·rename_i h; rw [kc_out k h]; rfl
theorem kn_zero (k : Int) (h : ¬ (1 ≤ k ∧ k ≤ 7)) : decide (kn k = 0) = true := decide_eq_true (by unfold kn; rw [if_neg h])
theorem kn_one (k : Int) (h : 1 ≤ k ∧ k ≤ 7) : decide (kn k = 0) = false := decide_eq_false (by unfold kn; rw [if_pos h]; omega)
theorem kn_same (k : Int) (h : ¬ kn k = 0) : kn k = k := by
 unfold kn at h ⊢
 split
 ·rfl
 ·rename_i h'; rw [if_neg h'] at h; exact absurd rfl h
theorem rwx_at (n j : Nat) (hj : j < 9) (hb : bi n (8 - j) = true) : ∀ h : ((8 - (j : Int)) % 3).toNat < (⟨#[120, 119, 114]⟩ : ByteArray).size, (((⟨#[120, 119, 114]⟩ : ByteArray)[((8 - (j : Int)) % 3).toNat]'h).toNat : Int) = ((sg0 n j).toNat : Int) := by
 unfold sg0
 rw [if_pos hb]
 have hc : j = 0 ∨ j = 1 ∨ j = 2 ∨ j = 3 ∨ j = 4 ∨ j = 5 ∨ j = 6 ∨ j = 7 ∨ j = 8 := by omega
 rcases hc with rfl | rfl | rfl | rfl | rfl | rfl | rfl | rfl | rfl <;> intro h <;> rfl
theorem sg0_off (n j : Nat) (hb : bi n (8 - j) = false) : sg0 n j = 45 := by unfold sg0; rw [hb]; rfl
theorem mid_step {k m : Int} {B g cap : Nat} (W : World) {i : Nat} (hown : W.ownsRow B 5 1 (.slice (some ⟨g, 0, none⟩) 10 cap) 10 (nums .u8 (mid k m i))) (hi : i < 3) :
  W.cell? ⟨g, 3 * i + 3, none⟩ = some (.int .u8 (if bi (nn m) (8 - (3 * i + 2)) then 120 else 45)) ∧ W.frozen? ⟨g, 3 * i + 3, none⟩ = false ∧
  (bi (nn m) (11 - i) = true → (W.setCell ⟨g, 3 * i + 3, none⟩ (.int .u8 (onc (nn m) i))).ownsRow B 5 1 (.slice (some ⟨g, 0, none⟩) 10 cap) 10 (nums .u8 (mid k m (i + 1)))) := by
 obtain ⟨h1, h2⟩ := own_at hown ((3 * i + 3 : Nat) : Int) (by omega) (by omega)
 rw [Int.toNat_natCast] at h1 h2
 refine ⟨?_, h2, fun h => ?_⟩
 ·rw [h1, ← mid_at k m i hi]; rfl
 ·have := (own_store hown ((3 * i + 3 : Nat) : Int) (onc (nn m) i)).1
  rw [Int.toNat_natCast, ← mid_on k m i hi h] at this
  exact this
set_option maxRecDepth 100000 in
set_option maxHeartbeats 3200000 in
theorem signs_any (k m : Int) (w : World) :
  Calls Tryz.prog 24 #[.int .i64 k, .int .i64 m] w fun e w' => e = .returned (.string ⟨(sgl k m).toArray⟩) ∧ Below w.heap.size w w' := by
 go_enter Tryz.func24, Tryz.ntmps24
 go_upto_region 1 with (fail)
 go_cut [16] (fun v wc => ∃ b : Bool, v = .bool b ∧ b = decide (kn k = 0) ∧ w = wc)
 case first =>
  by_cases c1 : k < 1
  ·go_wp2
   go_meet
   case rel => exact ⟨_, rfl, (kn_zero k (by omega)).symm, rfl⟩
  ·by_cases c2 : 7 < k
   ·go_wp2
    go_meet
    case rel => exact ⟨_, rfl, (kn_zero k (by omega)).symm, rfl⟩
   ·go_wp2
    go_meet
    case rel => exact ⟨_, rfl, (kn_one k (by omega)).symm, rfl⟩
 case rest =>
 obtain ⟨b, rfl, hb, rfl⟩ := hcut
 have Hb := Lib.hid hb
 clear hb
 go_upto_if 16 with (fail)
 go_cut [0] (fun v0 wc1 => v0 = .int .i64 (kn k) ∧ w = wc1)
 case first =>
  cases b with
  | true =>
   go_wp2
   go_meet
   case rel => exact ⟨by rw [of_decide_eq_true Hb.out.symm], rfl⟩
  | false =>
   go_wp2
   go_meet
   case rel => exact ⟨by rw [kn_same k (of_decide_eq_false Hb.out.symm)], rfl⟩
 case rest =>
  obtain ⟨rfl, rfl⟩ := hcut
  have hkn : 0 ≤ kn k ∧ kn k ≤ 7 := by unfold kn; split <;> omega
  have hk := kinds_at (kn k) hkn
  rw [kc_kn] at hk
  obtain ⟨hk0, hk7⟩ := hkn
  go_wp2
  clear hk
  go_loopw [5, 6] (fun b i wr => ∃ j : Nat, j ≤ 9 ∧ i = .int .i64 (8 - (j : Int)) ∧ wr.ownsRow w.heap.size 5 1 b (pre k m j).length (nums .u8 (pre k m j)) ∧ Below w.heap.size w wr) (fun _ i _ => (intOf i + 1).toNat)
  case atStart => exact ⟨0, by omega, rfl, own_lit w _ 5 .u8 [((kc k).toNat : Int)] (Nat.le_refl _) (by simp), (Below.refl _ _).alloc (Nat.le_refl _) _⟩
  case round =>
   obtain ⟨j, hj, rfl, hown, hbel⟩ := hrel
   have hsz := hbel.size
   have hl := pre_len k m j
   by_cases hlt : j < 9
   ·cases hb : bi (nn m) (8 - j) with
    | true =>
     have q := bit_of m (8 - j) (by omega)
     rw [hb] at q
     have hx := rwx_at (nn m) j hlt hb
     have Hb := Lib.hid hb
     have Hl := Lib.hid hl
     clear hb hl
     go_wp2_with (at_builtin; refine print_append_num w.heap.size rfl (.tmp 32) (.tmp 34) 27 5 .u8 1 rfl Tryz.underlying27 info5 (by omega) u5 (pre k m j) _ rfl rfl hown hbel hsz (by rw [Hl.out]; omega) ?_; intro v1 w1 hown1 hbel1 _ _)
     rw [← pre_succ] at hown1
     go_roundw
     case rel => exact ⟨j + 1, by omega, by go_num, hown1, hbel1⟩
     case measure => simp [intOf]; omega
    | false =>
     have q := bit_of m (8 - j) (by omega)
     rw [hb] at q
     have hx := sg0_off (nn m) j hb
     have Hb := Lib.hid hb
     have Hl := Lib.hid hl
     have Hx := Lib.hid hx
     clear hb hl hx
     go_wp2_with (at_builtin; refine print_append_num w.heap.size rfl (.tmp 32) (.tmp 34) 27 5 .u8 1 rfl Tryz.underlying27 info5 (by omega) u5 (pre k m j) _ rfl rfl hown hbel hsz (by rw [Hl.out]; omega) ?_; intro v1 w1 hown1 hbel1 _ _)
     have e : pre k m j ++ [45] = pre k m (j + 1) := by rw [pre_succ, Hx.out]; rfl
     rw [e] at hown1
     go_roundw
     case rel => exact ⟨j + 1, by omega, by go_num, hown1, hbel1⟩
     case measure => simp [intOf]; omega
   ·obtain rfl : j = 9 := by omega
    rw [← mid_zero, mid_len] at hown
    obtain ⟨g, cap, rfl, hgb, hgl⟩ := hown.form (by omega)
    clear hl
    have i0 : ∀ w, (Instr.index 97 (.agg #[.string ⟨#[115, 83]⟩, .string ⟨#[115, 83]⟩, .string ⟨#[116, 84]⟩]) (.int .i64 0)).run Tryz.prog w = .ok (.string ⟨#[115, 83]⟩) w := fun _ => by kernel_rfl
    have i1 : ∀ w, (Instr.index 97 (.agg #[.string ⟨#[115, 83]⟩, .string ⟨#[115, 83]⟩, .string ⟨#[116, 84]⟩]) (.int .i64 1)).run Tryz.prog w = .ok (.string ⟨#[115, 83]⟩) w := fun _ => by kernel_rfl
    have i2 : ∀ w, (Instr.index 97 (.agg #[.string ⟨#[115, 83]⟩, .string ⟨#[115, 83]⟩, .string ⟨#[116, 84]⟩]) (.int .i64 2)).run Tryz.prog w = .ok (.string ⟨#[116, 84]⟩) w := fun _ => by kernel_rfl
    go_wp2_with fail
    obtain ⟨wo, rfl⟩ : ∃ wo : World, wo = wr := ⟨_, rfl⟩
    go_loopw [37, 8, 9, 10] (fun i _ _ _ wr => ∃ j : Nat, j ≤ 3 ∧ i = .int .i64 (j : Int) ∧ wr.ownsRow w.heap.size 5 1 (.slice (some ⟨g, 0, none⟩) 10 cap) 10 (nums .u8 (mid k m j)) ∧ Below w.heap.size w wr) (fun i _ _ _ _ => (3 - intOf i).toNat)
    case atStart => exact ⟨0, by omega, rfl, hown, hbel⟩
    case round =>
     clear hown hbel
     obtain ⟨j, hj, rfl, hown, hbel⟩ := hrel
     by_cases hlt : j < 3
     ·obtain ⟨F1, F2, F3⟩ := mid_step wr hown hlt
      have hc : j = 0 ∨ j = 1 ∨ j = 2 := by omega
      cases hb : bi (nn m) (11 - j) with
      | false =>
       have e := mid_off k m j hlt hb
       rw [← e] at hown
       have E := Lib.hid e
       clear e F1 F2 F3
       rcases hc with rfl | rfl | rfl
       ·have hq : (bits BinOp.and IntKind.i64 (m / 2048) 1 == 0) = true := by have := bit_of0 m 11 (by omega); rw [show bi (nn m) 11 = false from hb] at this; exact this
        clear hb
        go_wp2
        go_roundw
        case rel => exact ⟨1, by omega, by go_num, hown, hbel⟩
        case measure => simp [intOf]
       ·have hq : (bits BinOp.and IntKind.i64 (m / 1024) 1 == 0) = true := by have := bit_of0 m 10 (by omega); rw [show bi (nn m) 10 = false from hb] at this; exact this
        clear hb
        go_wp2
        go_roundw
        case rel => exact ⟨2, by omega, by go_num, hown, hbel⟩
        case measure => simp [intOf]
       ·have hq : (bits BinOp.and IntKind.i64 (m / 512) 1 == 0) = true := by have := bit_of0 m 9 (by omega); rw [show bi (nn m) 9 = false from hb] at this; exact this
        clear hb
        go_wp2
        go_roundw
        case rel => exact ⟨3, by omega, by go_num, hown, hbel⟩
        case measure => simp [intOf]
      | true =>
       cases hb2 : bi (nn m) (8 - (3 * j + 2)) <;> rcases hc with rfl | rfl | rfl
       ·have hc : wr.cell? ⟨g, 3, none⟩ = some (.int .u8 45) := by have := F1; rw [hb2] at this; exact this
        have hf : wr.frozen? ⟨g, 3, none⟩ = false := F2
        have F4 : (wr.setCell ⟨g, 3, none⟩ (.int .u8 83)).ownsRow w.heap.size 5 1 (.slice (some ⟨g, 0, none⟩) 10 cap) 10 (nums .u8 (mid k m 1)) := by have := F3 hb; unfold onc at this; rw [hb2] at this; exact this
        have hq : (bits BinOp.and IntKind.i64 (m / 2048) 1 == 0) = false := by have := bit_of0 m 11 (by omega); rw [show bi (nn m) 11 = true from hb] at this; exact this
        clear F1 F2 F3 hb hb2 hown
        go_wp2
        go_roundw
        case rel => exact ⟨1, by omega, by go_num, F4, hbel.setCell hgb _⟩
        case measure => simp [intOf]
       ·have hc : wr.cell? ⟨g, 6, none⟩ = some (.int .u8 45) := by have := F1; rw [hb2] at this; exact this
        have hf : wr.frozen? ⟨g, 6, none⟩ = false := F2
        have F4 : (wr.setCell ⟨g, 6, none⟩ (.int .u8 83)).ownsRow w.heap.size 5 1 (.slice (some ⟨g, 0, none⟩) 10 cap) 10 (nums .u8 (mid k m 2)) := by have := F3 hb; unfold onc at this; rw [hb2] at this; exact this
        have hq : (bits BinOp.and IntKind.i64 (m / 1024) 1 == 0) = false := by have := bit_of0 m 10 (by omega); rw [show bi (nn m) 10 = true from hb] at this; exact this
        clear F1 F2 F3 hb hb2 hown
        go_wp2
        go_roundw
        case rel => exact ⟨2, by omega, by go_num, F4, hbel.setCell hgb _⟩
        case measure => simp [intOf]
       ·have hc : wr.cell? ⟨g, 9, none⟩ = some (.int .u8 45) := by have := F1; rw [hb2] at this; exact this
        have hf : wr.frozen? ⟨g, 9, none⟩ = false := F2
        have F4 : (wr.setCell ⟨g, 9, none⟩ (.int .u8 84)).ownsRow w.heap.size 5 1 (.slice (some ⟨g, 0, none⟩) 10 cap) 10 (nums .u8 (mid k m 3)) := by have := F3 hb; unfold onc at this; rw [hb2] at this; exact this
        have hq : (bits BinOp.and IntKind.i64 (m / 512) 1 == 0) = false := by have := bit_of0 m 9 (by omega); rw [show bi (nn m) 9 = true from hb] at this; exact this
        clear F1 F2 F3 hb hb2 hown
        go_wp2
        go_roundw
        case rel => exact ⟨3, by omega, by go_num, F4, hbel.setCell hgb _⟩
        case measure => simp [intOf]
       ·have hc : wr.cell? ⟨g, 3, none⟩ = some (.int .u8 120) := by have := F1; rw [hb2] at this; exact this
        have hf : wr.frozen? ⟨g, 3, none⟩ = false := F2
        have F4 : (wr.setCell ⟨g, 3, none⟩ (.int .u8 115)).ownsRow w.heap.size 5 1 (.slice (some ⟨g, 0, none⟩) 10 cap) 10 (nums .u8 (mid k m 1)) := by have := F3 hb; unfold onc at this; rw [hb2] at this; exact this
        have hq : (bits BinOp.and IntKind.i64 (m / 2048) 1 == 0) = false := by have := bit_of0 m 11 (by omega); rw [show bi (nn m) 11 = true from hb] at this; exact this
        clear F1 F2 F3 hb hb2 hown
        go_wp2
        go_roundw
        case rel => exact ⟨1, by omega, by go_num, F4, hbel.setCell hgb _⟩
        case measure => simp [intOf]
       ·have hc : wr.cell? ⟨g, 6, none⟩ = some (.int .u8 120) := by have := F1; rw [hb2] at this; exact this
        have hf : wr.frozen? ⟨g, 6, none⟩ = false := F2
        have F4 : (wr.setCell ⟨g, 6, none⟩ (.int .u8 115)).ownsRow w.heap.size 5 1 (.slice (some ⟨g, 0, none⟩) 10 cap) 10 (nums .u8 (mid k m 2)) := by have := F3 hb; unfold onc at this; rw [hb2] at this; exact this
        have hq : (bits BinOp.and IntKind.i64 (m / 1024) 1 == 0) = false := by have := bit_of0 m 10 (by omega); rw [show bi (nn m) 10 = true from hb] at this; exact this
        clear F1 F2 F3 hb hb2 hown
        go_wp2
        go_roundw
        case rel => exact ⟨2, by omega, by go_num, F4, hbel.setCell hgb _⟩
        case measure => simp [intOf]
       ·have hc : wr.cell? ⟨g, 9, none⟩ = some (.int .u8 120) := by have := F1; rw [hb2] at this; exact this
        have hf : wr.frozen? ⟨g, 9, none⟩ = false := F2
        have F4 : (wr.setCell ⟨g, 9, none⟩ (.int .u8 116)).ownsRow w.heap.size 5 1 (.slice (some ⟨g, 0, none⟩) 10 cap) 10 (nums .u8 (mid k m 3)) := by have := F3 hb; unfold onc at this; rw [hb2] at this; exact this
        have hq : (bits BinOp.and IntKind.i64 (m / 512) 1 == 0) = false := by have := bit_of0 m 9 (by omega); rw [show bi (nn m) 9 = true from hb] at this; exact this
        clear F1 F2 F3 hb hb2 hown
        go_wp2
        go_roundw
        case rel => exact ⟨3, by omega, by go_num, F4, hbel.setCell hgb _⟩
        case measure => simp [intOf]
     ·obtain rfl : j = 3 := by omega
      have hcv := own_string (P := Tryz.prog) Tryz.underlying27 Tryz.underlying5 Tryz.underlying9 hown
      rw [mid_end, str_sgl] at hcv
      go_wp2
      go_ret
      exact ⟨rfl, hbel⟩
end Go.Proofs.YtejdmofljifkbaaGreatDoor.Sg
namespace Go.Proofs.YtejdmofljifkbaaGreatDoor.P
open Go.RowKit Go.Proofs.YtejdmofljifkbaaGreatDoorW.PrintWords Go.Proofs.YtejdmofljifkbaaGreatDoorW.PrintLast Go.Proofs.YtejdmofljifkbaaGreatDoorW.PrintMore
def list_Signs.f (a0 : Int) (a1 : Int) : Option (ByteArray) := some (tx (Go.Proofs.YtejdmofljifkbaaGreatDoor.Sig.sgl a0 a1))
theorem list_Signs.calls (a0 : Int) (a1 : Int) (r : ByteArray) (w : World) (h : list_Signs.f a0 a1 = some r) :
  Calls Tryz.prog 24 #[.int .i64 a0, .int .i64 a1] w fun e w' => e = .returned (.string r) ∧ Below w.heap.size w w' := by
 obtain rfl := Option.some.inj h
 exact Go.Proofs.YtejdmofljifkbaaGreatDoor.Sg.signs_any a0 a1 w
end Go.Proofs.YtejdmofljifkbaaGreatDoor.P
namespace Go.Proofs
open Go.Shelf
def Tryz.lays169_ren : Go.Shelf.Ren := ⟨fun | 169 => 66 | n => n, fun | 70 => 104 | 9 => 9 | 0 => 0 | 72 => 106 | 37 => 27 | 127 => 149 | 3 => 3 | 5 => 5 | n => n, fun | n => n⟩
theorem Tryz.lays169 : Go.Proofs.Lays.n169 Tryz.prog Tryz.lays169_ren := {
 mixed := by kernel_rfl
 f169 := Tryz.func66.trans (congrArg some (by kernel_rfl))
 t0 := Tryz.underlying0
 a0 := Tryz.isAgg0
 z0 := Tryz.sizeOf0
 v0 := Tryz.zeroValue0
 t3 := Tryz.underlying3
 a3 := Tryz.isAgg3
 z3 := Tryz.sizeOf3
 v3 := Tryz.zeroValue3
 t9 := Tryz.underlying9
 a9 := Tryz.isAgg9
 z9 := Tryz.sizeOf9
 v9 := Tryz.zeroValue9
 t37 := Tryz.underlying27
 a37 := Tryz.isAgg27
 z37 := Tryz.sizeOf27
 v37 := Tryz.zeroValue27
 t70 := Tryz.underlying104
 a70 := Tryz.isAgg104
 z70 := Tryz.sizeOf104
 v70 := Tryz.zeroValue104
 t72 := Tryz.underlying106
 a72 := Tryz.isAgg106
 z72 := Tryz.sizeOf106
 v72 := Tryz.zeroValue106
 t127 := Tryz.underlying149
 a127 := Tryz.isAgg149
 z127 := Tryz.sizeOf149
 v127 := Tryz.zeroValue149 }
theorem Tryz.Builder_Extra_169 : Builder.Extra Tryz.prog Tryz.lays169_ren := {
 sizeBuilder := by kernel_rfl
 liesBuilder := by kernel_rfl
 t5 := Tryz.underlying5
 a5 := Tryz.isAgg5
 z5 := Tryz.sizeOf5
 v5 := Tryz.zeroValue5
 infoByte := by kernel_rfl
 cellsByte := by kernel_rfl
 sizeByte := by kernel_rfl
 neB5 := by decide }
open Go.RowKit in
theorem Tryz.Builder_String_any (B b : Nat) (l : List UInt8) (w : World) (h : Lib.IsBuilder 106 5 B b (Lib.byteCells l) w) (hBw : B ≤ w.heap.size) :
  Calls Tryz.prog 66 #[.pointer (some ⟨b, 0, none⟩)] w fun e w' => e = .returned (.string ⟨l.toArray⟩) ∧ Below B w w' := Any.Builder_String_any Tryz.lays169 Tryz.Builder_Extra_169 B b l w h hBw
def Tryz.lays156_ren : Go.Shelf.Ren := ⟨fun | 156 => 27 | 165 => 64 | 166 => 65 | 169 => 66 | 240 => 108 | 241 => 109 | 276 => 138 | 277 => 139 | n => n, fun | 31 => 74 | 9 => 9 | 3 => 3 | 4 => 4 | 0 => 0 | 20 => 20 | 72 => 106 | 76 => 110 | 70 => 104 | 37 => 27 | 75 => 109 | 127 => 149 | 164 => 182 | 5 => 5 | 80 => 112 | n => n, fun | n => n⟩
theorem Tryz.lays156 : Go.Proofs.Lays.n156 Tryz.prog Tryz.lays156_ren := {
 mixed := by kernel_rfl
 f156 := Tryz.func27.trans (congrArg some (by kernel_rfl))
 f165 := Tryz.func64.trans (congrArg some (by kernel_rfl))
 f166 := Tryz.func65.trans (congrArg some (by kernel_rfl))
 f169 := Tryz.func66.trans (congrArg some (by kernel_rfl))
 f240 := Tryz.func108.trans (congrArg some (by kernel_rfl))
 f241 := Tryz.func109.trans (congrArg some (by kernel_rfl))
 f276 := Tryz.func138.trans (congrArg some (by kernel_rfl))
 f277 := Tryz.func139.trans (congrArg some (by kernel_rfl))
 t0 := Tryz.underlying0
 a0 := Tryz.isAgg0
 z0 := Tryz.sizeOf0
 v0 := Tryz.zeroValue0
 t3 := Tryz.underlying3
 a3 := Tryz.isAgg3
 z3 := Tryz.sizeOf3
 v3 := Tryz.zeroValue3
 t4 := Tryz.underlying4
 a4 := Tryz.isAgg4
 z4 := Tryz.sizeOf4
 v4 := Tryz.zeroValue4
 t9 := Tryz.underlying9
 a9 := Tryz.isAgg9
 z9 := Tryz.sizeOf9
 v9 := Tryz.zeroValue9
 t20 := Tryz.underlying20
 a20 := Tryz.isAgg20
 z20 := Tryz.sizeOf20
 v20 := Tryz.zeroValue20
 t31 := Tryz.underlying74
 a31 := Tryz.isAgg74
 z31 := Tryz.sizeOf74
 v31 := Tryz.zeroValue74
 t37 := Tryz.underlying27
 a37 := Tryz.isAgg27
 z37 := Tryz.sizeOf27
 v37 := Tryz.zeroValue27
 t70 := Tryz.underlying104
 a70 := Tryz.isAgg104
 z70 := Tryz.sizeOf104
 v70 := Tryz.zeroValue104
 t72 := Tryz.underlying106
 a72 := Tryz.isAgg106
 z72 := Tryz.sizeOf106
 v72 := Tryz.zeroValue106
 t75 := Tryz.underlying109
 a75 := Tryz.isAgg109
 z75 := Tryz.sizeOf109
 v75 := Tryz.zeroValue109
 t76 := Tryz.underlying110
 a76 := Tryz.isAgg110
 z76 := Tryz.sizeOf110
 v76 := Tryz.zeroValue110
 t127 := Tryz.underlying149
 a127 := Tryz.isAgg149
 z127 := Tryz.sizeOf149
 v127 := Tryz.zeroValue149
 t164 := Tryz.underlying182
 a164 := Tryz.isAgg182
 z164 := Tryz.sizeOf182
 v164 := Tryz.zeroValue182 }
theorem Tryz.Builder_Extra_156 : Builder.Extra Tryz.prog Tryz.lays156_ren := {
 sizeBuilder := by kernel_rfl
 liesBuilder := by kernel_rfl
 t5 := Tryz.underlying5
 a5 := Tryz.isAgg5
 z5 := Tryz.sizeOf5
 v5 := Tryz.zeroValue5
 infoByte := by kernel_rfl
 cellsByte := by kernel_rfl
 sizeByte := by kernel_rfl
 neB5 := by decide }
open Go.RowKit in
theorem Tryz.strings_Join_none (a : Option Addr) (c : Nat) (sep : ByteArray) (w : World) :
  Calls Tryz.prog 27 #[.slice a 0 c, .string sep] w fun e w' => e = .returned (.string ⟨#[]⟩) ∧ w' = w := Any.strings_Join_none Tryz.lays156 Tryz.Builder_Extra_156 a c sep w
open Go.RowKit in
theorem Tryz.strings_Join (bk o c : Nat) (xs : List ByteArray) (sep : ByteArray) (w : World) (hcells : ∀ (j : Nat) x, xs[j]? = some x → w.cell? ⟨bk, o + j, none⟩ = some (.string x)) (hbk : bk < w.heap.size) (hN : xs.length ≤ 140737488355328) (hcap : xs.length ≤ c) (hlen : (Lib.join (xs.map (·.data.toList)) sep.data.toList).length ≤ 140737488355328) :
  Calls Tryz.prog 27 #[.slice (some ⟨bk, o, none⟩) xs.length c, .string sep] w fun e w' => e = .returned (.string ⟨(Lib.join (xs.map (·.data.toList)) sep.data.toList).toArray⟩) ∧ Below w.heap.size w w' := Any.strings_Join Tryz.lays156 Tryz.Builder_Extra_156 bk o c xs sep w hcells hbk hN hcap hlen
def Tryz.lays119_ren : Go.Shelf.Ren := ⟨fun | 119 => 190 | n => n, fun | 21 => 21 | 4 => 4 | n => n, fun | n => n⟩
theorem Tryz.lays119 : Go.Proofs.Lays.n119 Tryz.prog Tryz.lays119_ren := {
 mixed := by kernel_rfl
 f119 := Tryz.func190.trans (congrArg some (by kernel_rfl))
 t4 := Tryz.underlying4
 a4 := Tryz.isAgg4
 z4 := Tryz.sizeOf4
 v4 := Tryz.zeroValue4
 t21 := Tryz.underlying21
 a21 := Tryz.isAgg21
 z21 := Tryz.sizeOf21
 v21 := Tryz.zeroValue21 }
theorem Tryz.utf8_ValidRune (r : Int) (w : World) :
  Calls Tryz.prog 190 #[.int .i32 r] w fun e w' => e = .returned (.bool (Lib.validRune r)) ∧ w' = w := Any.utf8_ValidRune Tryz.lays119 r w
def Tryz.lays137_ren : Go.Shelf.Ren := ⟨fun | 137 => 55 | 217 => 101 | 266 => 131 | n => n, fun | 9 => 9 | 5 => 5 | 3 => 3 | n => n, fun | n => n⟩
theorem Tryz.lays137 : Go.Proofs.Lays.n137 Tryz.prog Tryz.lays137_ren := {
 mixed := by kernel_rfl
 f137 := Tryz.func55.trans (congrArg some (by kernel_rfl))
 f217 := Tryz.func101.trans (congrArg some (by kernel_rfl))
 f266 := Tryz.func131.trans (congrArg some (by kernel_rfl))
 t3 := Tryz.underlying3
 a3 := Tryz.isAgg3
 z3 := Tryz.sizeOf3
 v3 := Tryz.zeroValue3
 t5 := Tryz.underlying5
 a5 := Tryz.isAgg5
 z5 := Tryz.sizeOf5
 v5 := Tryz.zeroValue5
 t9 := Tryz.underlying9
 a9 := Tryz.isAgg9
 z9 := Tryz.sizeOf9
 v9 := Tryz.zeroValue9 }
open Go.RowKit in
theorem Tryz.strings_IndexByte (s : ByteArray) (c : Int) (w : World) :
  Calls Tryz.prog 55 #[.string s, .int .u8 c] w fun e w' => e = .returned (.int .i64 (Lib.indexByte s.data.toList c.toNat.toUInt8)) ∧ w' = w := Any.strings_IndexByte Tryz.lays137 s c w
def Tryz.laysM173_ren : Go.Shelf.Ren := ⟨fun | 173 => 63 | 246 => 107 | 283 => 134 | 284 => 135 | 285 => 136 | 286 => 137 | 129 => 160 | 317 => 159 | 318 => 161 | 319 => 162 | 320 => 163 | 337 => 175 | 338 => 176 | n => n, fun | 2 => 2 | 3 => 3 | 9 => 9 | 4 => 4 | 171 => 176 | 0 => 0 | 53 => 177 | 37 => 27 | 5 => 5 | 173 => 180 | 212 => 201 | 51 => 185 | 20 => 20 | 213 => 202 | 46 => 119 | 232 => 229 | 233 => 230 | n => n, fun | 17 => 1 | 18 => 2 | 19 => 3 | n => n⟩
theorem Tryz.laysM173 : Go.Proofs.LaysM.n173 Tryz.prog Tryz.laysM173_ren := {
 mixed := by kernel_rfl
 f129 := Tryz.func160.trans (congrArg some (by kernel_rfl))
 f173 := Tryz.func63.trans (congrArg some (by kernel_rfl))
 f246 := Tryz.func107.trans (congrArg some (by kernel_rfl))
 f283 := Tryz.func134.trans (congrArg some (by kernel_rfl))
 f284 := Tryz.func135.trans (congrArg some (by kernel_rfl))
 f285 := Tryz.func136.trans (congrArg some (by kernel_rfl))
 f286 := Tryz.func137.trans (congrArg some (by kernel_rfl))
 f317 := Tryz.func159.trans (congrArg some (by kernel_rfl))
 f318 := Tryz.func161.trans (congrArg some (by kernel_rfl))
 f319 := Tryz.func162.trans (congrArg some (by kernel_rfl))
 f320 := Tryz.func163.trans (congrArg some (by kernel_rfl))
 f337 := Tryz.func175.trans (congrArg some (by kernel_rfl))
 f338 := Tryz.func176.trans (congrArg some (by kernel_rfl))
 t0 := Tryz.underlying0
 a0 := Tryz.isAgg0
 z0 := Tryz.sizeOf0
 v0 := Tryz.zeroValue0
 t2 := Tryz.underlying2
 a2 := Tryz.isAgg2
 z2 := Tryz.sizeOf2
 v2 := Tryz.zeroValue2
 t3 := Tryz.underlying3
 a3 := Tryz.isAgg3
 z3 := Tryz.sizeOf3
 v3 := Tryz.zeroValue3
 t4 := Tryz.underlying4
 a4 := Tryz.isAgg4
 z4 := Tryz.sizeOf4
 v4 := Tryz.zeroValue4
 t5 := Tryz.underlying5
 a5 := Tryz.isAgg5
 z5 := Tryz.sizeOf5
 v5 := Tryz.zeroValue5
 t9 := Tryz.underlying9
 a9 := Tryz.isAgg9
 z9 := Tryz.sizeOf9
 v9 := Tryz.zeroValue9
 t20 := Tryz.underlying20
 a20 := Tryz.isAgg20
 z20 := Tryz.sizeOf20
 v20 := Tryz.zeroValue20
 t37 := Tryz.underlying27
 a37 := Tryz.isAgg27
 z37 := Tryz.sizeOf27
 v37 := Tryz.zeroValue27
 t46 := Tryz.underlying119
 a46 := Tryz.isAgg119
 z46 := Tryz.sizeOf119
 v46 := Tryz.zeroValue119
 t51 := Tryz.underlying185
 a51 := Tryz.isAgg185
 z51 := Tryz.sizeOf185
 v51 := Tryz.zeroValue185
 t53 := Tryz.underlying177
 a53 := Tryz.isAgg177
 z53 := Tryz.sizeOf177
 v53 := Tryz.zeroValue177
 t171 := Tryz.underlying176
 a171 := Tryz.isAgg176
 z171 := Tryz.sizeOf176
 v171 := Tryz.zeroValue176
 t173 := Tryz.underlying180
 a173 := Tryz.isAgg180
 z173 := Tryz.sizeOf180
 v173 := Tryz.zeroValue180
 t212 := Tryz.underlying201
 a212 := Tryz.isAgg201
 z212 := Tryz.sizeOf201
 v212 := Tryz.zeroValue201
 t213 := Tryz.underlying202
 a213 := Tryz.isAgg202
 z213 := Tryz.sizeOf202
 t232 := Tryz.underlying229
 a232 := Tryz.isAgg229
 z232 := Tryz.sizeOf229
 v232 := Tryz.zeroValue229
 t233 := Tryz.underlying230
 a233 := Tryz.isAgg230
 z233 := Tryz.sizeOf230
 v233 := Tryz.zeroValue230
 g17 := by kernel_rfl
 g18 := by kernel_rfl
 g19 := by kernel_rfl
 i0 := by kernel_rfl
 i2 := by kernel_rfl
 i3 := by kernel_rfl
 i4 := by kernel_rfl
 i5 := by kernel_rfl
 i9 := by kernel_rfl
 i20 := by kernel_rfl
 i37 := by kernel_rfl
 i46 := by kernel_rfl
 i51 := by kernel_rfl
 i53 := by kernel_rfl
 i171 := by kernel_rfl
 i173 := by kernel_rfl
 i212 := by kernel_rfl
 i232 := by kernel_rfl
 i233 := by kernel_rfl
 m17 := by kernel_rfl
 m18 := by kernel_rfl
 m19 := by kernel_rfl }
open Go.RowKit Go.Sort Go.Lib in
theorem Tryz.strconv_FormatInt_10 (n : Int) (h0 : -9223372036854775808 ≤ n) (h1 : n ≤ 9223372036854775807) (w : World) (htab : Lib.TabIs Tryz.prog w "internal/strconv.uint64pow10" .u64 Lib.pow10Tab) :
  Calls Tryz.prog 63 #[.int .i64 n, .int .i64 10] w fun e w' => e = .returned (.string ⟨(Lib.itoa n).toArray⟩) ∧ ∃ k os, w' = grow (w.drewN k) os := Any.strconv_FormatInt_10 Tryz.laysM173 n h0 h1 w htab
def Tryz.laysC174_ren : Go.Shelf.Ren := ⟨fun | 174 => 187 | 247 => 193 | 245 => 194 | 287 => 196 | 279 => 197 | 280 => 198 | 281 => 199 | 282 => 200 | 321 => 201 | 322 => 202 | 316 => 203 | 171 => 205 | 205 => 204 | 243 => 206 | 246 => 107 | 283 => 134 | 284 => 135 | 285 => 136 | 286 => 137 | 129 => 160 | 317 => 159 | 318 => 161 | 319 => 162 | 320 => 163 | 337 => 175 | 338 => 176 | n => n, fun | 9 => 9 | 3 => 3 | 2 => 2 | 75 => 109 | 85 => 227 | 4 => 4 | 167 => 238 | 5 => 5 | 53 => 177 | 175 => 235 | 46 => 119 | 168 => 239 | 37 => 27 | 0 => 0 | 210 => 248 | 21 => 21 | 127 => 149 | 145 => 252 | 143 => 250 | 171 => 176 | 173 => 180 | 212 => 201 | 51 => 185 | 20 => 20 | 213 => 202 | 232 => 229 | 233 => 230 | 80 => 112 | n => n, fun | 15 => 6 | 16 => 7 | 17 => 1 | 18 => 2 | 19 => 3 | n => n⟩
theorem Tryz.laysC174 : Go.Proofs.LaysC.n174 Tryz.prog Tryz.laysC174_ren := {
 mixed := by kernel_rfl
 f129 := Tryz.func160.trans (congrArg some (by kernel_rfl))
 f171 := Tryz.func205.trans (congrArg some (by kernel_rfl))
 f174 := Tryz.func187.trans (congrArg some (by kernel_rfl))
 f205 := Tryz.func204.trans (congrArg some (by kernel_rfl))
 f243 := Tryz.func206.trans (congrArg some (by kernel_rfl))
 f245 := Tryz.func194.trans (congrArg some (by kernel_rfl))
 f246 := Tryz.func107.trans (congrArg some (by kernel_rfl))
 f247 := Tryz.func193.trans (congrArg some (by kernel_rfl))
 f279 := Tryz.func197.trans (congrArg some (by kernel_rfl))
 f280 := Tryz.func198.trans (congrArg some (by kernel_rfl))
 f281 := Tryz.func199.trans (congrArg some (by kernel_rfl))
 f282 := Tryz.func200.trans (congrArg some (by kernel_rfl))
 f283 := Tryz.func134.trans (congrArg some (by kernel_rfl))
 f284 := Tryz.func135.trans (congrArg some (by kernel_rfl))
 f285 := Tryz.func136.trans (congrArg some (by kernel_rfl))
 f286 := Tryz.func137.trans (congrArg some (by kernel_rfl))
 f287 := Tryz.func196.trans (congrArg some (by kernel_rfl))
 f316 := Tryz.func203.trans (congrArg some (by kernel_rfl))
 f317 := Tryz.func159.trans (congrArg some (by kernel_rfl))
 f318 := Tryz.func161.trans (congrArg some (by kernel_rfl))
 f319 := Tryz.func162.trans (congrArg some (by kernel_rfl))
 f320 := Tryz.func163.trans (congrArg some (by kernel_rfl))
 f321 := Tryz.func201.trans (congrArg some (by kernel_rfl))
 f322 := Tryz.func202.trans (congrArg some (by kernel_rfl))
 f337 := Tryz.func175.trans (congrArg some (by kernel_rfl))
 f338 := Tryz.func176.trans (congrArg some (by kernel_rfl))
 t0 := Tryz.underlying0
 a0 := Tryz.isAgg0
 z0 := Tryz.sizeOf0
 v0 := Tryz.zeroValue0
 t2 := Tryz.underlying2
 a2 := Tryz.isAgg2
 z2 := Tryz.sizeOf2
 v2 := Tryz.zeroValue2
 t3 := Tryz.underlying3
 a3 := Tryz.isAgg3
 z3 := Tryz.sizeOf3
 v3 := Tryz.zeroValue3
 t4 := Tryz.underlying4
 a4 := Tryz.isAgg4
 z4 := Tryz.sizeOf4
 v4 := Tryz.zeroValue4
 t5 := Tryz.underlying5
 a5 := Tryz.isAgg5
 z5 := Tryz.sizeOf5
 v5 := Tryz.zeroValue5
 t9 := Tryz.underlying9
 a9 := Tryz.isAgg9
 z9 := Tryz.sizeOf9
 v9 := Tryz.zeroValue9
 t20 := Tryz.underlying20
 a20 := Tryz.isAgg20
 z20 := Tryz.sizeOf20
 v20 := Tryz.zeroValue20
 t21 := Tryz.underlying21
 a21 := Tryz.isAgg21
 z21 := Tryz.sizeOf21
 v21 := Tryz.zeroValue21
 t37 := Tryz.underlying27
 a37 := Tryz.isAgg27
 z37 := Tryz.sizeOf27
 v37 := Tryz.zeroValue27
 t46 := Tryz.underlying119
 a46 := Tryz.isAgg119
 z46 := Tryz.sizeOf119
 v46 := Tryz.zeroValue119
 t51 := Tryz.underlying185
 a51 := Tryz.isAgg185
 z51 := Tryz.sizeOf185
 v51 := Tryz.zeroValue185
 t53 := Tryz.underlying177
 a53 := Tryz.isAgg177
 z53 := Tryz.sizeOf177
 v53 := Tryz.zeroValue177
 t75 := Tryz.underlying109
 a75 := Tryz.isAgg109
 z75 := Tryz.sizeOf109
 v75 := Tryz.zeroValue109
 t85 := Tryz.underlying227
 a85 := Tryz.isAgg227
 z85 := Tryz.sizeOf227
 v85 := Tryz.zeroValue227
 t127 := Tryz.underlying149
 a127 := Tryz.isAgg149
 z127 := Tryz.sizeOf149
 v127 := Tryz.zeroValue149
 t143 := Tryz.underlying250
 a143 := Tryz.isAgg250
 z143 := Tryz.sizeOf250
 v143 := Tryz.zeroValue250
 t145 := Tryz.underlying252
 a145 := Tryz.isAgg252
 z145 := Tryz.sizeOf252
 v145 := Tryz.zeroValue252
 t167 := Tryz.underlying238
 a167 := Tryz.isAgg238
 z167 := Tryz.sizeOf238
 v167 := Tryz.zeroValue238
 t168 := Tryz.underlying239
 a168 := Tryz.isAgg239
 z168 := Tryz.sizeOf239
 v168 := Tryz.zeroValue239
 t171 := Tryz.underlying176
 a171 := Tryz.isAgg176
 z171 := Tryz.sizeOf176
 v171 := Tryz.zeroValue176
 t173 := Tryz.underlying180
 a173 := Tryz.isAgg180
 z173 := Tryz.sizeOf180
 v173 := Tryz.zeroValue180
 t175 := Tryz.underlying235
 a175 := Tryz.isAgg235
 z175 := Tryz.sizeOf235
 v175 := Tryz.zeroValue235
 t210 := Tryz.underlying248
 a210 := Tryz.isAgg248
 z210 := Tryz.sizeOf248
 v210 := Tryz.zeroValue248
 t212 := Tryz.underlying201
 a212 := Tryz.isAgg201
 z212 := Tryz.sizeOf201
 v212 := Tryz.zeroValue201
 t213 := Tryz.underlying202
 a213 := Tryz.isAgg202
 z213 := Tryz.sizeOf202
 t232 := Tryz.underlying229
 a232 := Tryz.isAgg229
 z232 := Tryz.sizeOf229
 v232 := Tryz.zeroValue229
 t233 := Tryz.underlying230
 a233 := Tryz.isAgg230
 z233 := Tryz.sizeOf230
 v233 := Tryz.zeroValue230
 g15 := by kernel_rfl
 g16 := by kernel_rfl
 g17 := by kernel_rfl
 g18 := by kernel_rfl
 g19 := by kernel_rfl
 t80 := Tryz.underlying112
 a80 := Tryz.isAgg112
 z80 := Tryz.sizeOf112
 v80 := Tryz.zeroValue112
 i0 := by kernel_rfl
 i2 := by kernel_rfl
 i3 := by kernel_rfl
 i4 := by kernel_rfl
 i5 := by kernel_rfl
 i9 := by kernel_rfl
 i20 := by kernel_rfl
 i21 := by kernel_rfl
 i37 := by kernel_rfl
 i46 := by kernel_rfl
 i51 := by kernel_rfl
 i53 := by kernel_rfl
 i75 := by kernel_rfl
 i80 := by kernel_rfl
 i85 := by kernel_rfl
 i127 := by kernel_rfl
 i143 := by kernel_rfl
 i145 := by kernel_rfl
 i167 := by kernel_rfl
 i168 := by kernel_rfl
 i171 := by kernel_rfl
 i173 := by kernel_rfl
 i175 := by kernel_rfl
 i210 := by kernel_rfl
 i212 := by kernel_rfl
 i232 := by kernel_rfl
 i233 := by kernel_rfl
 m15 := by kernel_rfl
 m16 := by kernel_rfl
 m17 := by kernel_rfl
 m18 := by kernel_rfl
 m19 := by kernel_rfl
 c0 := by kernel_rfl
 c2 := by kernel_rfl
 c3 := by kernel_rfl
 c4 := by kernel_rfl
 c5 := by kernel_rfl
 c9 := by kernel_rfl
 c20 := by kernel_rfl
 c21 := by kernel_rfl
 c37 := by kernel_rfl
 c46 := by kernel_rfl
 c51 := by kernel_rfl
 c53 := by kernel_rfl
 c75 := by kernel_rfl
 c80 := by kernel_rfl
 c85 := by kernel_rfl
 c127 := by kernel_rfl
 c143 := by kernel_rfl
 c145 := by kernel_rfl
 c167 := by kernel_rfl
 c168 := by kernel_rfl
 c171 := by kernel_rfl
 c173 := by kernel_rfl
 c175 := by kernel_rfl
 c210 := by kernel_rfl
 c212 := by kernel_rfl
 c213 := by kernel_rfl
 c232 := by kernel_rfl
 c233 := by kernel_rfl }
open Go.RowKit in
theorem Tryz.strconv_ParseInt_10_at64_ok (s : ByteArray) (hmax : s.size ≤ 9223372036854775806) (v : Int) (h : Lib.parseIntB 64 s.data.toList = .ok v) (w : World) :
  Calls Tryz.prog 187 #[.string s, .int .i64 10, .int .i64 64] w fun e w' => e = .returned (.tuple #[.int .i64 v, .nilIface]) ∧ (w' = w ∨ ∃ t, w' = Lib.bytesWorld w 5 t) := Any.strconv_ParseInt_10_at64_ok Tryz.laysC174 s hmax v h w
def Tryz.laysPu14_ren : Go.Shelf.Ren := ⟨fun | 14 => 191 | 16 => 196 | 17 => 194 | 19 => 201 | 20 => 202 | 21 => 197 | 22 => 198 | 23 => 199 | 24 => 200 | 25 => 203 | 27 => 205 | 26 => 204 | 28 => 206 | 29 => 107 | 30 => 134 | 31 => 135 | 32 => 136 | 33 => 137 | 35 => 160 | 34 => 159 | 36 => 161 | 37 => 162 | 38 => 163 | 39 => 175 | 40 => 176 | n => n, fun | 9 => 9 | 3 => 3 | 22 => 177 | 24 => 109 | 25 => 235 | 4 => 4 | 34 => 238 | 5 => 5 | 36 => 119 | 37 => 27 | 0 => 0 | 39 => 239 | 21 => 21 | 44 => 248 | 47 => 149 | 50 => 252 | 48 => 250 | 2 => 2 | 52 => 176 | 55 => 180 | 59 => 201 | 60 => 185 | 20 => 20 | 61 => 202 | 65 => 229 | 66 => 230 | 67 => 112 | n => n, fun | 0 => 6 | 1 => 7 | 2 => 1 | 3 => 2 | 4 => 3 | n => n⟩
theorem Tryz.laysPu14 : Go.Proofs.LaysPu.n14 Tryz.prog Tryz.laysPu14_ren := {
 mixed := by kernel_rfl
 f14 := Tryz.func191.trans (congrArg some (by kernel_rfl))
 f16 := Tryz.func196.trans (congrArg some (by kernel_rfl))
 f17 := Tryz.func194.trans (congrArg some (by kernel_rfl))
 f19 := Tryz.func201.trans (congrArg some (by kernel_rfl))
 f20 := Tryz.func202.trans (congrArg some (by kernel_rfl))
 f21 := Tryz.func197.trans (congrArg some (by kernel_rfl))
 f22 := Tryz.func198.trans (congrArg some (by kernel_rfl))
 f23 := Tryz.func199.trans (congrArg some (by kernel_rfl))
 f24 := Tryz.func200.trans (congrArg some (by kernel_rfl))
 f25 := Tryz.func203.trans (congrArg some (by kernel_rfl))
 f26 := Tryz.func204.trans (congrArg some (by kernel_rfl))
 f27 := Tryz.func205.trans (congrArg some (by kernel_rfl))
 f28 := Tryz.func206.trans (congrArg some (by kernel_rfl))
 f29 := Tryz.func107.trans (congrArg some (by kernel_rfl))
 f30 := Tryz.func134.trans (congrArg some (by kernel_rfl))
 f31 := Tryz.func135.trans (congrArg some (by kernel_rfl))
 f32 := Tryz.func136.trans (congrArg some (by kernel_rfl))
 f33 := Tryz.func137.trans (congrArg some (by kernel_rfl))
 f34 := Tryz.func159.trans (congrArg some (by kernel_rfl))
 f35 := Tryz.func160.trans (congrArg some (by kernel_rfl))
 f36 := Tryz.func161.trans (congrArg some (by kernel_rfl))
 f37 := Tryz.func162.trans (congrArg some (by kernel_rfl))
 f38 := Tryz.func163.trans (congrArg some (by kernel_rfl))
 f39 := Tryz.func175.trans (congrArg some (by kernel_rfl))
 f40 := Tryz.func176.trans (congrArg some (by kernel_rfl))
 t0 := Tryz.underlying0
 a0 := Tryz.isAgg0
 z0 := Tryz.sizeOf0
 v0 := Tryz.zeroValue0
 i0 := by kernel_rfl
 t2 := Tryz.underlying2
 a2 := Tryz.isAgg2
 z2 := Tryz.sizeOf2
 v2 := Tryz.zeroValue2
 i2 := by kernel_rfl
 t3 := Tryz.underlying3
 a3 := Tryz.isAgg3
 z3 := Tryz.sizeOf3
 v3 := Tryz.zeroValue3
 i3 := by kernel_rfl
 t4 := Tryz.underlying4
 a4 := Tryz.isAgg4
 z4 := Tryz.sizeOf4
 v4 := Tryz.zeroValue4
 i4 := by kernel_rfl
 t5 := Tryz.underlying5
 a5 := Tryz.isAgg5
 z5 := Tryz.sizeOf5
 v5 := Tryz.zeroValue5
 i5 := by kernel_rfl
 t9 := Tryz.underlying9
 a9 := Tryz.isAgg9
 z9 := Tryz.sizeOf9
 v9 := Tryz.zeroValue9
 i9 := by kernel_rfl
 t20 := Tryz.underlying20
 a20 := Tryz.isAgg20
 z20 := Tryz.sizeOf20
 v20 := Tryz.zeroValue20
 i20 := by kernel_rfl
 t21 := Tryz.underlying21
 a21 := Tryz.isAgg21
 z21 := Tryz.sizeOf21
 v21 := Tryz.zeroValue21
 i21 := by kernel_rfl
 t22 := Tryz.underlying177
 a22 := Tryz.isAgg177
 z22 := Tryz.sizeOf177
 v22 := Tryz.zeroValue177
 i22 := by kernel_rfl
 t24 := Tryz.underlying109
 a24 := Tryz.isAgg109
 z24 := Tryz.sizeOf109
 v24 := Tryz.zeroValue109
 i24 := by kernel_rfl
 t25 := Tryz.underlying235
 a25 := Tryz.isAgg235
 z25 := Tryz.sizeOf235
 v25 := Tryz.zeroValue235
 i25 := by kernel_rfl
 t34 := Tryz.underlying238
 a34 := Tryz.isAgg238
 z34 := Tryz.sizeOf238
 v34 := Tryz.zeroValue238
 i34 := by kernel_rfl
 c34 := by kernel_rfl
 t36 := Tryz.underlying119
 a36 := Tryz.isAgg119
 z36 := Tryz.sizeOf119
 v36 := Tryz.zeroValue119
 i36 := by kernel_rfl
 t37 := Tryz.underlying27
 a37 := Tryz.isAgg27
 z37 := Tryz.sizeOf27
 v37 := Tryz.zeroValue27
 i37 := by kernel_rfl
 t39 := Tryz.underlying239
 a39 := Tryz.isAgg239
 z39 := Tryz.sizeOf239
 v39 := Tryz.zeroValue239
 i39 := by kernel_rfl
 t44 := Tryz.underlying248
 a44 := Tryz.isAgg248
 z44 := Tryz.sizeOf248
 v44 := Tryz.zeroValue248
 i44 := by kernel_rfl
 t47 := Tryz.underlying149
 a47 := Tryz.isAgg149
 z47 := Tryz.sizeOf149
 v47 := Tryz.zeroValue149
 i47 := by kernel_rfl
 t48 := Tryz.underlying250
 a48 := Tryz.isAgg250
 z48 := Tryz.sizeOf250
 v48 := Tryz.zeroValue250
 i48 := by kernel_rfl
 t50 := Tryz.underlying252
 a50 := Tryz.isAgg252
 z50 := Tryz.sizeOf252
 v50 := Tryz.zeroValue252
 i50 := by kernel_rfl
 t52 := Tryz.underlying176
 a52 := Tryz.isAgg176
 z52 := Tryz.sizeOf176
 v52 := Tryz.zeroValue176
 i52 := by kernel_rfl
 t55 := Tryz.underlying180
 a55 := Tryz.isAgg180
 z55 := Tryz.sizeOf180
 v55 := Tryz.zeroValue180
 i55 := by kernel_rfl
 t59 := Tryz.underlying201
 a59 := Tryz.isAgg201
 z59 := Tryz.sizeOf201
 v59 := Tryz.zeroValue201
 i59 := by kernel_rfl
 t60 := Tryz.underlying185
 a60 := Tryz.isAgg185
 z60 := Tryz.sizeOf185
 v60 := Tryz.zeroValue185
 i60 := by kernel_rfl
 t61 := Tryz.underlying202
 a61 := Tryz.isAgg202
 z61 := Tryz.sizeOf202
 t65 := Tryz.underlying229
 a65 := Tryz.isAgg229
 z65 := Tryz.sizeOf229
 v65 := Tryz.zeroValue229
 i65 := by kernel_rfl
 t66 := Tryz.underlying230
 a66 := Tryz.isAgg230
 z66 := Tryz.sizeOf230
 v66 := Tryz.zeroValue230
 i66 := by kernel_rfl
 t67 := Tryz.underlying112
 a67 := Tryz.isAgg112
 z67 := Tryz.sizeOf112
 v67 := Tryz.zeroValue112
 i67 := by kernel_rfl
 g0 := by kernel_rfl
 m0 := by kernel_rfl
 g1 := by kernel_rfl
 m1 := by kernel_rfl
 g2 := by kernel_rfl
 m2 := by kernel_rfl
 g3 := by kernel_rfl
 m3 := by kernel_rfl
 g4 := by kernel_rfl
 m4 := by kernel_rfl }
open Go.RowKit in
theorem Tryz.strconv_ParseUint_10_at64_ok (s : ByteArray) (hmax : s.size ≤ 9223372036854775806) (u : Nat) (h : Lib.parseUintB 64 s.data.toList = .ok u) (w : World) :
  Calls Tryz.prog 191 #[.string s, .int .i64 10, .int .i64 64] w fun e w' => e = .returned (.tuple #[.int .u64 u, .nilIface]) ∧ (w' = w ∨ w' = Lib.bytesWorld w 5 s) := Any.strconv_ParseUint_10_at64_ok Tryz.laysPu14 s hmax u h w
open Go.RowKit in
theorem Tryz.strconv_ParseUint_10_at64_syntax (s : ByteArray) (hlim : s.size ≤ 281474976710656) (h : Lib.parseUintB 64 s.data.toList = Lib.parseUintB 64 []) (ev : Value) (w : World) (hv : w.cell? ⟨6, 0, none⟩ = some ev) (hev : ev = .nilIface ∨ ∃ te pe, ev = .iface te pe) :
  Calls Tryz.prog 191 #[.string s, .int .i64 10, .int .i64 64] w fun e w' => ∃ N, e = .returned (.tuple #[.int .u64 0, .iface 239 (.pointer (some ⟨N, 0, none⟩))]) ∧ w.heap.size ≤ N ∧ w'.heap[N]? = some (.cells #[.string ⟨#[80, 97, 114, 115, 101, 85, 105, 110, 116]⟩, .string s, ev] 248 (0, 0)) ∧ Below w.heap.size w w' := Any.strconv_ParseUint_10_at64_syntax Tryz.laysPu14 s hlim (h.trans (show Lib.parseUintB 64 [] = _ from if_pos rfl)) ev w hv hev
open Go.RowKit in
theorem Tryz.strconv_ParseUint_10_at64_range (s : ByteArray) (hlim : s.size ≤ 281474976710656) (h : Lib.parseUintB 64 s.data.toList = .range) (ev : Value) (w : World) (hv : w.cell? ⟨7, 0, none⟩ = some ev) (hev : ev = .nilIface ∨ ∃ te pe, ev = .iface te pe) :
  Calls Tryz.prog 191 #[.string s, .int .i64 10, .int .i64 64] w fun e w' => ∃ N, e = .returned (.tuple #[.int .u64 18446744073709551615, .iface 239 (.pointer (some ⟨N, 0, none⟩))]) ∧ w.heap.size ≤ N ∧ w'.heap[N]? = some (.cells #[.string ⟨#[80, 97, 114, 115, 101, 85, 105, 110, 116]⟩, .string s, ev] 248 (0, 0)) ∧ Below w.heap.size w w' := Any.strconv_ParseUint_10_at64_range Tryz.laysPu14 s hlim h ev w hv hev
def Tryz.lays217_ren : Go.Shelf.Ren := ⟨fun | 217 => 101 | 266 => 131 | n => n, fun | 9 => 9 | 5 => 5 | 3 => 3 | n => n, fun | n => n⟩
theorem Tryz.lays217 : Go.Proofs.Lays.n217 Tryz.prog Tryz.lays217_ren := {
 mixed := by kernel_rfl
 f217 := Tryz.func101.trans (congrArg some (by kernel_rfl))
 f266 := Tryz.func131.trans (congrArg some (by kernel_rfl))
 t3 := Tryz.underlying3
 a3 := Tryz.isAgg3
 z3 := Tryz.sizeOf3
 v3 := Tryz.zeroValue3
 t5 := Tryz.underlying5
 a5 := Tryz.isAgg5
 z5 := Tryz.sizeOf5
 v5 := Tryz.zeroValue5
 t9 := Tryz.underlying9
 a9 := Tryz.isAgg9
 z9 := Tryz.sizeOf9
 v9 := Tryz.zeroValue9 }
open Go.RowKit Go.Lib in
theorem Tryz.stringslite_IndexByte (s : ByteArray) (c : Int) (w : World) :
  Calls Tryz.prog 101 #[.string s, .int .u8 c] w fun e w' => e = .returned (.int .i64 (Lib.indexByte s.data.toList c.toNat.toUInt8)) ∧ w' = w := Any.stringslite_IndexByte Tryz.lays217 s c w
def Tryz.lays145_ren : Go.Shelf.Ren := ⟨fun | 145 => 185 | 220 => 192 | 219 => 127 | 217 => 101 | 225 => 151 | 224 => 152 | 267 => 153 | 266 => 131 | 314 => 168 | n => n, fun | 9 => 9 | 4 => 4 | 59 => 225 | 3 => 3 | 5 => 5 | 46 => 119 | 146 => 186 | 51 => 185 | n => n, fun | 1 => 0 | n => n⟩
theorem Tryz.lays145 : Go.Proofs.Lays.n145 Tryz.prog Tryz.lays145_ren := {
 mixed := by kernel_rfl
 f145 := Tryz.func185.trans (congrArg some (by kernel_rfl))
 f217 := Tryz.func101.trans (congrArg some (by kernel_rfl))
 f219 := Tryz.func127.trans (congrArg some (by kernel_rfl))
 f220 := Tryz.func192.trans (congrArg some (by kernel_rfl))
 f224 := Tryz.func152.trans (congrArg some (by kernel_rfl))
 f225 := Tryz.func151.trans (congrArg some (by kernel_rfl))
 f266 := Tryz.func131.trans (congrArg some (by kernel_rfl))
 f267 := Tryz.func153.trans (congrArg some (by kernel_rfl))
 f314 := Tryz.func168.trans (congrArg some (by kernel_rfl))
 t3 := Tryz.underlying3
 a3 := Tryz.isAgg3
 z3 := Tryz.sizeOf3
 v3 := Tryz.zeroValue3
 t4 := Tryz.underlying4
 a4 := Tryz.isAgg4
 z4 := Tryz.sizeOf4
 v4 := Tryz.zeroValue4
 t5 := Tryz.underlying5
 a5 := Tryz.isAgg5
 z5 := Tryz.sizeOf5
 v5 := Tryz.zeroValue5
 t9 := Tryz.underlying9
 a9 := Tryz.isAgg9
 z9 := Tryz.sizeOf9
 v9 := Tryz.zeroValue9
 t46 := Tryz.underlying119
 a46 := Tryz.isAgg119
 z46 := Tryz.sizeOf119
 v46 := Tryz.zeroValue119
 t51 := Tryz.underlying185
 a51 := Tryz.isAgg185
 z51 := Tryz.sizeOf185
 v51 := Tryz.zeroValue185
 t59 := Tryz.underlying225
 a59 := Tryz.isAgg225
 z59 := Tryz.sizeOf225
 v59 := Tryz.zeroValue225
 t146 := Tryz.underlying186
 a146 := Tryz.isAgg186
 z146 := Tryz.sizeOf186
 v146 := Tryz.zeroValue186
 g1 := by kernel_rfl }
open Go.RowKit Go.Lib in
theorem Tryz.strings_Cut (s sep : ByteArray) (m : Int) (w : World) (hs : s.size < 4294967281) (hm : w.cell? ⟨0, 0, none⟩ = some (.int .i64 m)) :
  Calls Tryz.prog 185 #[.string s, .string sep] w fun e w' => e = .returned (.tuple #[.string ⟨(Lib.cut s.data.toList sep.data.toList).1.toArray⟩, .string ⟨(Lib.cut s.data.toList sep.data.toList).2.1.toArray⟩, .bool (Lib.cut s.data.toList sep.data.toList).2.2]) ∧ ∃ n, w' = w.drewN n := Any.strings_Cut Tryz.lays145 s sep m w hs hm
def Tryz.lays197_ren : Go.Shelf.Ren := ⟨fun | 197 => 189 | 260 => 195 | n => n, fun | 9 => 9 | 21 => 21 | 3 => 3 | 4 => 4 | 5 => 5 | 105 => 231 | 119 => 242 | 0 => 0 | 46 => 119 | 139 => 245 | 138 => 244 | n => n, fun | 3 => 4 | 4 => 5 | n => n⟩
theorem Tryz.lays197 : Go.Proofs.Lays.n197 Tryz.prog Tryz.lays197_ren := {
 mixed := by kernel_rfl
 f197 := Tryz.func189.trans (congrArg some (by kernel_rfl))
 f260 := Tryz.func195.trans (congrArg some (by kernel_rfl))
 t0 := Tryz.underlying0
 a0 := Tryz.isAgg0
 z0 := Tryz.sizeOf0
 v0 := Tryz.zeroValue0
 t3 := Tryz.underlying3
 a3 := Tryz.isAgg3
 z3 := Tryz.sizeOf3
 v3 := Tryz.zeroValue3
 t4 := Tryz.underlying4
 a4 := Tryz.isAgg4
 z4 := Tryz.sizeOf4
 v4 := Tryz.zeroValue4
 t5 := Tryz.underlying5
 a5 := Tryz.isAgg5
 z5 := Tryz.sizeOf5
 v5 := Tryz.zeroValue5
 t9 := Tryz.underlying9
 a9 := Tryz.isAgg9
 z9 := Tryz.sizeOf9
 v9 := Tryz.zeroValue9
 t21 := Tryz.underlying21
 a21 := Tryz.isAgg21
 z21 := Tryz.sizeOf21
 v21 := Tryz.zeroValue21
 t46 := Tryz.underlying119
 a46 := Tryz.isAgg119
 z46 := Tryz.sizeOf119
 v46 := Tryz.zeroValue119
 t105 := Tryz.underlying231
 a105 := Tryz.isAgg231
 z105 := Tryz.sizeOf231
 v105 := Tryz.zeroValue231
 t119 := Tryz.underlying242
 a119 := Tryz.isAgg242
 z119 := Tryz.sizeOf242
 t138 := Tryz.underlying244
 a138 := Tryz.isAgg244
 z138 := Tryz.sizeOf244
 v138 := Tryz.zeroValue244
 t139 := Tryz.underlying245
 a139 := Tryz.isAgg245
 z139 := Tryz.sizeOf245
 v139 := Tryz.zeroValue245
 g3 := by kernel_rfl
 g4 := by kernel_rfl }
def Tryz.lays152_ren : Go.Shelf.Ren := ⟨fun | 152 => 180 | 137 => 55 | 119 => 190 | 224 => 152 | 225 => 151 | 217 => 101 | 266 => 131 | n => n, fun | 9 => 9 | 21 => 21 | 3 => 3 | 4 => 4 | 5 => 5 | 0 => 0 | 46 => 119 | n => n, fun | n => n⟩
theorem Tryz.lays152 : Go.Proofs.Lays.n152 Tryz.prog Tryz.lays152_ren := {
 mixed := by kernel_rfl
 f119 := Tryz.func190.trans (congrArg some (by kernel_rfl))
 f137 := Tryz.func55.trans (congrArg some (by kernel_rfl))
 f152 := Tryz.func180.trans (congrArg some (by kernel_rfl))
 f217 := Tryz.func101.trans (congrArg some (by kernel_rfl))
 f224 := Tryz.func152.trans (congrArg some (by kernel_rfl))
 f225 := Tryz.func151.trans (congrArg some (by kernel_rfl))
 f266 := Tryz.func131.trans (congrArg some (by kernel_rfl))
 t0 := Tryz.underlying0
 a0 := Tryz.isAgg0
 z0 := Tryz.sizeOf0
 v0 := Tryz.zeroValue0
 t3 := Tryz.underlying3
 a3 := Tryz.isAgg3
 z3 := Tryz.sizeOf3
 v3 := Tryz.zeroValue3
 t4 := Tryz.underlying4
 a4 := Tryz.isAgg4
 z4 := Tryz.sizeOf4
 v4 := Tryz.zeroValue4
 t5 := Tryz.underlying5
 a5 := Tryz.isAgg5
 z5 := Tryz.sizeOf5
 v5 := Tryz.zeroValue5
 t9 := Tryz.underlying9
 a9 := Tryz.isAgg9
 z9 := Tryz.sizeOf9
 v9 := Tryz.zeroValue9
 t21 := Tryz.underlying21
 a21 := Tryz.isAgg21
 z21 := Tryz.sizeOf21
 v21 := Tryz.zeroValue21
 t46 := Tryz.underlying119
 a46 := Tryz.isAgg119
 z46 := Tryz.sizeOf119
 v46 := Tryz.zeroValue119 }
open Go.RowKit Go.Lib in
theorem Tryz.strings_IndexRune_ascii (s : ByteArray) (r : Int) (w : World) (h0 : 0 ≤ r) (h1 : r < 128) :
  Calls Tryz.prog 180 #[.string s, .int .i32 r] w fun e w' => e = .returned (.int .i64 (Lib.indexByte s.data.toList r.toNat.toUInt8)) ∧ w' = w := Any.strings_IndexRune_ascii Tryz.lays152 s r w h0 h1
def Tryz.lays226_ren : Go.Shelf.Ren := ⟨fun | 226 => 181 | n => n, fun | 3 => 3 | 4 => 4 | n => n, fun | n => n⟩
theorem Tryz.lays226 : Go.Proofs.Lays.n226 Tryz.prog Tryz.lays226_ren := {
 mixed := by kernel_rfl
 f226 := Tryz.func181.trans (congrArg some (by kernel_rfl))
 t3 := Tryz.underlying3
 a3 := Tryz.isAgg3
 z3 := Tryz.sizeOf3
 v3 := Tryz.zeroValue3
 t4 := Tryz.underlying4
 a4 := Tryz.isAgg4
 z4 := Tryz.sizeOf4
 v4 := Tryz.zeroValue4 }
open Go.RowKit Go.Lib in
theorem Tryz.strings_shouldUseASCIISet (n : Int) (w : World) :
  Calls Tryz.prog 181 #[.int .i64 n] w fun e w' => e = .returned (.bool (decide (8 < n))) ∧ w' = w := Any.strings_shouldUseASCIISet Tryz.lays226 n w
def Tryz.lays153_ren : Go.Shelf.Ren := ⟨fun | 153 => 171 | 152 => 180 | 226 => 181 | 227 => 182 | 228 => 183 | 137 => 55 | 119 => 190 | 224 => 152 | 225 => 151 | 217 => 101 | 266 => 131 | n => n, fun | 9 => 9 | 3 => 3 | 4 => 4 | 5 => 5 | 21 => 21 | 117 => 221 | 116 => 220 | 0 => 0 | 46 => 119 | 124 => 234 | n => n, fun | n => n⟩
theorem Tryz.lays153 : Go.Proofs.Lays.n153 Tryz.prog Tryz.lays153_ren := {
 mixed := by kernel_rfl
 f119 := Tryz.func190.trans (congrArg some (by kernel_rfl))
 f137 := Tryz.func55.trans (congrArg some (by kernel_rfl))
 f152 := Tryz.func180.trans (congrArg some (by kernel_rfl))
 f153 := Tryz.func171.trans (congrArg some (by kernel_rfl))
 f217 := Tryz.func101.trans (congrArg some (by kernel_rfl))
 f224 := Tryz.func152.trans (congrArg some (by kernel_rfl))
 f225 := Tryz.func151.trans (congrArg some (by kernel_rfl))
 f226 := Tryz.func181.trans (congrArg some (by kernel_rfl))
 f227 := Tryz.func182.trans (congrArg some (by kernel_rfl))
 f228 := Tryz.func183.trans (congrArg some (by kernel_rfl))
 f266 := Tryz.func131.trans (congrArg some (by kernel_rfl))
 t0 := Tryz.underlying0
 a0 := Tryz.isAgg0
 z0 := Tryz.sizeOf0
 v0 := Tryz.zeroValue0
 t3 := Tryz.underlying3
 a3 := Tryz.isAgg3
 z3 := Tryz.sizeOf3
 v3 := Tryz.zeroValue3
 t4 := Tryz.underlying4
 a4 := Tryz.isAgg4
 z4 := Tryz.sizeOf4
 v4 := Tryz.zeroValue4
 t5 := Tryz.underlying5
 a5 := Tryz.isAgg5
 z5 := Tryz.sizeOf5
 v5 := Tryz.zeroValue5
 t9 := Tryz.underlying9
 a9 := Tryz.isAgg9
 z9 := Tryz.sizeOf9
 v9 := Tryz.zeroValue9
 t21 := Tryz.underlying21
 a21 := Tryz.isAgg21
 z21 := Tryz.sizeOf21
 v21 := Tryz.zeroValue21
 t46 := Tryz.underlying119
 a46 := Tryz.isAgg119
 z46 := Tryz.sizeOf119
 v46 := Tryz.zeroValue119
 t116 := Tryz.underlying220
 a116 := Tryz.isAgg220
 z116 := Tryz.sizeOf220
 t117 := Tryz.underlying221
 a117 := Tryz.isAgg221
 z117 := Tryz.sizeOf221
 v117 := Tryz.zeroValue221
 t124 := Tryz.underlying234
 a124 := Tryz.isAgg234
 z124 := Tryz.sizeOf234
 v124 := Tryz.zeroValue234 }
open Go.RowKit Go.Lib in
theorem Tryz.strings_IndexAny_long (hv116 : ∀ w, (zeroValue 220).run Tryz.prog w = .ok (.agg (Array.replicate 256 (.bool false))) w) (s chars : ByteArray) (w : World) (h2 : 2 ≤ chars.size) (h8 : 8 < s.size) (hs : s.size < 4294967281) (hcs : chars.size < 4294967281) (hascii : ∀ (j : Nat) b, chars.data.toList[j]? = some b → b.toNat < 128) :
  Calls Tryz.prog 171 #[.string s, .string chars] w fun e w' => e = .returned (.int .i64 (Lib.indexAny s.data.toList chars.data.toList)) ∧ w' = ((w.alloc (.cells (Lib.setCells chars.data.toList) 220)).alloc (.cells (Lib.setCells chars.data.toList) 220)) := Any.strings_IndexAny_long Tryz.lays153 hv116 (by kernel_rfl) s chars w h2 h8 hs hcs hascii
def Tryz.lays105_ren : Go.Shelf.Ren := ⟨fun | 105 => 68 | 212 => 111 | 99 => 112 | 165 => 64 | 166 => 65 | 170 => 113 | 169 => 66 | 263 => 141 | 264 => 142 | 206 => 143 | 240 => 108 | 241 => 109 | 276 => 138 | 277 => 139 | n => n, fun | 9 => 9 | 3 => 3 | 4 => 4 | 20 => 20 | 0 => 0 | 46 => 119 | 109 => 150 | 5 => 5 | 72 => 106 | 76 => 110 | 51 => 185 | 146 => 186 | 53 => 177 | 148 => 188 | 70 => 104 | 37 => 27 | 75 => 109 | 127 => 149 | 164 => 182 | 80 => 112 | n => n, fun | n => n⟩
theorem Tryz.lays105 : Go.Proofs.Lays.n105 Tryz.prog Tryz.lays105_ren := {
 mixed := by kernel_rfl
 f99 := Tryz.func112.trans (congrArg some (by kernel_rfl))
 f105 := Tryz.func68.trans (congrArg some (by kernel_rfl))
 f165 := Tryz.func64.trans (congrArg some (by kernel_rfl))
 f166 := Tryz.func65.trans (congrArg some (by kernel_rfl))
 f169 := Tryz.func66.trans (congrArg some (by kernel_rfl))
 f170 := Tryz.func113.trans (congrArg some (by kernel_rfl))
 f206 := Tryz.func143.trans (congrArg some (by kernel_rfl))
 f212 := Tryz.func111.trans (congrArg some (by kernel_rfl))
 f240 := Tryz.func108.trans (congrArg some (by kernel_rfl))
 f241 := Tryz.func109.trans (congrArg some (by kernel_rfl))
 f263 := Tryz.func141.trans (congrArg some (by kernel_rfl))
 f264 := Tryz.func142.trans (congrArg some (by kernel_rfl))
 f276 := Tryz.func138.trans (congrArg some (by kernel_rfl))
 f277 := Tryz.func139.trans (congrArg some (by kernel_rfl))
 t0 := Tryz.underlying0
 a0 := Tryz.isAgg0
 z0 := Tryz.sizeOf0
 v0 := Tryz.zeroValue0
 t3 := Tryz.underlying3
 a3 := Tryz.isAgg3
 z3 := Tryz.sizeOf3
 v3 := Tryz.zeroValue3
 t4 := Tryz.underlying4
 a4 := Tryz.isAgg4
 z4 := Tryz.sizeOf4
 v4 := Tryz.zeroValue4
 t5 := Tryz.underlying5
 a5 := Tryz.isAgg5
 z5 := Tryz.sizeOf5
 v5 := Tryz.zeroValue5
 t9 := Tryz.underlying9
 a9 := Tryz.isAgg9
 z9 := Tryz.sizeOf9
 v9 := Tryz.zeroValue9
 t20 := Tryz.underlying20
 a20 := Tryz.isAgg20
 z20 := Tryz.sizeOf20
 v20 := Tryz.zeroValue20
 t37 := Tryz.underlying27
 a37 := Tryz.isAgg27
 z37 := Tryz.sizeOf27
 v37 := Tryz.zeroValue27
 t46 := Tryz.underlying119
 a46 := Tryz.isAgg119
 z46 := Tryz.sizeOf119
 v46 := Tryz.zeroValue119
 t51 := Tryz.underlying185
 a51 := Tryz.isAgg185
 z51 := Tryz.sizeOf185
 v51 := Tryz.zeroValue185
 t53 := Tryz.underlying177
 a53 := Tryz.isAgg177
 z53 := Tryz.sizeOf177
 v53 := Tryz.zeroValue177
 t70 := Tryz.underlying104
 a70 := Tryz.isAgg104
 z70 := Tryz.sizeOf104
 v70 := Tryz.zeroValue104
 t72 := Tryz.underlying106
 a72 := Tryz.isAgg106
 z72 := Tryz.sizeOf106
 v72 := Tryz.zeroValue106
 t75 := Tryz.underlying109
 a75 := Tryz.isAgg109
 z75 := Tryz.sizeOf109
 v75 := Tryz.zeroValue109
 t76 := Tryz.underlying110
 a76 := Tryz.isAgg110
 z76 := Tryz.sizeOf110
 v76 := Tryz.zeroValue110
 t109 := Tryz.underlying150
 a109 := Tryz.isAgg150
 z109 := Tryz.sizeOf150
 v109 := Tryz.zeroValue150
 t127 := Tryz.underlying149
 a127 := Tryz.isAgg149
 z127 := Tryz.sizeOf149
 v127 := Tryz.zeroValue149
 t146 := Tryz.underlying186
 a146 := Tryz.isAgg186
 z146 := Tryz.sizeOf186
 v146 := Tryz.zeroValue186
 t148 := Tryz.underlying188
 a148 := Tryz.isAgg188
 z148 := Tryz.sizeOf188
 v148 := Tryz.zeroValue188
 t164 := Tryz.underlying182
 a164 := Tryz.isAgg182
 z164 := Tryz.sizeOf182
 v164 := Tryz.zeroValue182 }
theorem Tryz.Builder_Extra_105 : Builder.Extra Tryz.prog Tryz.lays105_ren := {
 sizeBuilder := by kernel_rfl
 liesBuilder := by kernel_rfl
 t5 := Tryz.underlying5
 a5 := Tryz.isAgg5
 z5 := Tryz.sizeOf5
 v5 := Tryz.zeroValue5
 infoByte := by kernel_rfl
 cellsByte := by kernel_rfl
 sizeByte := by kernel_rfl
 neB5 := by decide }
open Go.RowKit Go.Lib in
theorem Tryz.strings_Repeat (s : ByteArray) (c : Nat) (w : World) (hc : c ≤ 9223372036854775807) (hlen : s.size * c ≤ 140737488355328) :
  Calls Tryz.prog 68 #[.string s, .int .i64 c] w fun e w' => e = .returned (.string ⟨(Lib.repeatL s.data.toList c).toArray⟩) ∧ Below w.heap.size w w' := Any.strings_Repeat Tryz.lays105 Tryz.Builder_Extra_105 s c w hc hlen
open Go.RowKit Go.Lib in
theorem Tryz.utf8_DecodeRuneInString (s : ByteArray) (w : World) (hT : Lib.Utf8Tabs 4 5 w) :
  Calls Tryz.prog 189 #[.string s] w fun e w' => e = .returned (.tuple #[.int .i32 (Lib.decodeGo s).1, .int .i64 (Lib.decodeGo s).2]) ∧ Below w.heap.size w w' := Any.utf8_DecodeRuneInString Tryz.lays197 s w hT
end Go.Proofs
namespace Go.Proofs.YtejdmofljifkbaaGreatDoor.P
open Go.RowKit Go.Proofs.YtejdmofljifkbaaGreatDoorW.PrintWords Go.Proofs.YtejdmofljifkbaaGreatDoorW.PrintLast Go.Proofs.YtejdmofljifkbaaGreatDoorW.PrintMore
def stringslite_IndexByte.f (a0 : ByteArray) (a1 : Int) : Option (Int) := some (Lib.indexByte a0.data.toList a1.toNat.toUInt8)
theorem stringslite_IndexByte.calls (a0 : ByteArray) (a1 : Int) (r : Int) (w : World) (h : stringslite_IndexByte.f a0 a1 = some r) :
  Calls Tryz.prog 101 #[.string a0, .int .u8 a1] w fun e w' => e = .returned (.int .i64 r) ∧ Drawn0 w w' := by
 obtain rfl := Option.some.inj h
 exact (Tryz.stringslite_IndexByte a0 a1 w).mono fun e w' ⟨he, hw⟩ => ⟨he, hw ▸ Drawn0.refl _⟩
def strings_IndexByte.f (a0 : ByteArray) (a1 : Int) : Option (Int) := some (Lib.indexByte a0.data.toList a1.toNat.toUInt8)
theorem strings_IndexByte.calls (a0 : ByteArray) (a1 : Int) (r : Int) (w : World) (h : strings_IndexByte.f a0 a1 = some r) :
  Calls Tryz.prog 55 #[.string a0, .int .u8 a1] w fun e w' => e = .returned (.int .i64 r) ∧ Drawn0 w w' := by
 obtain rfl := Option.some.inj h
 exact (Tryz.strings_IndexByte a0 a1 w).mono fun e w' ⟨he, hw⟩ => ⟨he, hw ▸ Drawn0.refl _⟩
def strings_Cut.f (a0 : ByteArray) (a1 : ByteArray) : Option (ByteArray × ByteArray × Bool) :=
 if a0.size < 4294967281 then some (tx (Lib.cut a0.data.toList a1.data.toList).1, tx (Lib.cut a0.data.toList a1.data.toList).2.1, (Lib.cut a0.data.toList a1.data.toList).2.2) else none
theorem strings_Cut.calls (a0 : ByteArray) (a1 : ByteArray) (r1 : ByteArray) (r2 : ByteArray) (r3 : Bool) (w : World) (hG : Glob w) (h : strings_Cut.f a0 a1 = some (r1, r2, r3)) :
  Calls Tryz.prog 185 #[.string a0, .string a1] w fun e w' => e = .returned (.tuple #[.string r1, .string r2, .bool r3]) ∧ Below w.heap.size w w' := by
 unfold strings_Cut.f at h
 split at h
 ·rename_i hs
  simp only [Option.some.injEq, Prod.mk.injEq] at h
  obtain ⟨rfl, rfl, rfl⟩ := h
  obtain ⟨m, hm⟩ := hG.mx
  exact (Tryz.strings_Cut a0 a1 m w hs hm).mono fun e w' ⟨he, n, hw⟩ => ⟨he, hw ▸ (Drawn0.below ⟨⟨n, rfl⟩⟩)⟩
 ·cases h
def strings_Repeat.f (a0 : ByteArray) (a1 : Int) : Option (ByteArray) :=
 if 0 ≤ a1 ∧ a1 ≤ 9223372036854775807 ∧ a0.size * a1.toNat ≤ 140737488355328 then some (tx (Lib.repeatL a0.data.toList a1.toNat)) else none
theorem strings_Repeat.calls (a0 : ByteArray) (a1 : Int) (r : ByteArray) (w : World) (h : strings_Repeat.f a0 a1 = some r) :
  Calls Tryz.prog 68 #[.string a0, .int .i64 a1] w fun e w' => e = .returned (.string r) ∧ Below w.heap.size w w' := by
 unfold strings_Repeat.f at h
 split at h
 ·rename_i hs
  obtain rfl := Option.some.inj h
  obtain ⟨h0, h1, h2⟩ := hs
  obtain ⟨n, rfl⟩ := Int.eq_ofNat_of_zero_le h0
  exact Tryz.strings_Repeat a0 n w (by omega) h2
 ·cases h
def strconv_FormatInt.f (a0 : Int) (a1 : Int) : Option (ByteArray) :=
 if a1 = 10 ∧ -9223372036854775808 ≤ a0 ∧ a0 ≤ 9223372036854775807 then some (tx (Lib.itoa a0)) else none
theorem strconv_FormatInt.calls (a0 : Int) (a1 : Int) (r : ByteArray) (w : World) (hG : Glob w) (h : strconv_FormatInt.f a0 a1 = some r) :
  Calls Tryz.prog 63 #[.int .i64 a0, .int .i64 a1] w fun e w' => e = .returned (.string r) ∧ Below w.heap.size w w' := by
 unfold strconv_FormatInt.f at h
 split at h
 ·rename_i hs
  obtain rfl := Option.some.inj h
  obtain ⟨rfl, h1, h2⟩ := hs
  exact (Tryz.strconv_FormatInt_10 a0 h1 h2 w hG.p10).mono fun e w' ⟨he, k, os, hw⟩ => ⟨he, hw ▸ Lib.below_grow w.heap.size w (Nat.le_refl _) k os⟩
 ·cases h
def strconv_ParseInt.f (a0 : ByteArray) (a1 : Int) (a2 : Int) : Option (Int × Option Int) :=
 if a1 = 10 ∧ a2 = 64 ∧ a0.size ≤ 9223372036854775806 then (match Lib.parseIntB 64 a0.data.toList with | .ok v => some (v, none) | _ => none) else none
theorem strconv_ParseInt.calls (a0 : ByteArray) (a1 : Int) (a2 : Int) (r1 : Int) (r2 : Option Int) (w : World) (hG : Glob w) (h : strconv_ParseInt.f a0 a1 a2 = some (r1, r2)) :
  Calls Tryz.prog 187 #[.string a0, .int .i64 a1, .int .i64 a2] w fun e w' => e = .returned (.tuple #[.int .i64 r1, errW r2]) ∧ Below w.heap.size w w' := by
 unfold strconv_ParseInt.f at h
 split at h
 ·rename_i hs
  obtain ⟨rfl, rfl, h1⟩ := hs
  split at h
  ·rename_i v hv
   simp only [Option.some.injEq, Prod.mk.injEq] at h
   obtain ⟨rfl, rfl⟩ := h
   refine (Tryz.strconv_ParseInt_10_at64_ok a0 h1 v hv w).mono fun e w' ⟨he, hw⟩ => ⟨he, ?_⟩
   rcases hw with rfl | ⟨t, rfl⟩
   ·exact Below.refl _ _
   ·exact bytes_below (Below.refl _ _) (Nat.le_refl _) _ _
  ·cases h
 ·cases h
def utf8_DecodeRuneInString.f (a0 : ByteArray) : Option (Int × Int) := some (((Lib.decodeGo a0).1 : Int), ((Lib.decodeGo a0).2 : Int))
theorem utf8_DecodeRuneInString.calls (a0 : ByteArray) (r1 : Int) (r2 : Int) (w : World) (hG : Glob w) (h : utf8_DecodeRuneInString.f a0 = some (r1, r2)) :
  Calls Tryz.prog 189 #[.string a0] w fun e w' => e = .returned (.tuple #[.int .i32 r1, .int .i64 r2]) ∧ Below w.heap.size w w' := by
 simp only [utf8_DecodeRuneInString.f, Option.some.injEq, Prod.mk.injEq] at h
 obtain ⟨rfl, rfl⟩ := h
 exact Tryz.utf8_DecodeRuneInString a0 w hG.utf
theorem plain_at {w : World} {ad : Addr} {v : Value} (h : w.cell? ad = some v) : ad = ⟨ad.block, ad.off, none⟩ := by
 obtain ⟨b, o, s⟩ := ad
 cases s with
 | none => rfl
 | some s =>
  unfold World.cell? at h
  cases hb : w.heap[b]? with
  | none => simp [hb] at h
  | some o => cases o <;> simp [hb] at h
theorem add_at (b o j : Nat) : (⟨b, o, none⟩ : Addr).add j = ⟨b, o + j, none⟩ := by
 unfold Addr.add
 split <;> simp_all
theorem texts_at {w : World} {A : Option Addr} {l : List ByteArray} (h : Kd.C Kd.string w A l.length l) (h0 : 0 < l.length) :
  ∃ bk o, A = some ⟨bk, o, none⟩ ∧ bk < w.heap.size ∧ ∀ (j : Nat) x, l[j]? = some x → w.cell? ⟨bk, o + j, none⟩ = some (.string x) := by
 have hr := Kd.reads_of_C (enc := Value.string) (d := ByteArray.empty) (h1 := fun _ => rfl) h
 obtain ⟨ad, rfl, hc⟩ := hr.2.2 h0
 have h1 := hc 0 h0
 rw [show ad.add 0 = ad from by unfold Addr.add; split <;> simp_all] at h1
 have hp := plain_at h1
 refine ⟨ad.block, ad.off, by rw [← hp], World.block_lt_of_cell? w ad h1, fun j x hx => ?_⟩
 have hj : j < l.length := (List.getElem?_eq_some_iff.1 hx).1
 have h2 := hc j hj
 rw [hp, add_at] at h2
 rw [h2]
 simp [List.getD_eq_getElem?_getD, hx]
def strings_Join.f (l0 : List ByteArray) (a1 : ByteArray) : Option (ByteArray) :=
 if l0.length ≤ 140737488355328 ∧ (Lib.join (l0.map (·.data.toList)) a1.data.toList).length ≤ 140737488355328 then some (tx (Lib.join (l0.map (·.data.toList)) a1.data.toList)) else none
theorem strings_Join.calls (A0 : Option Addr) (c0 : Nat) (l0 : List ByteArray) (a1 : ByteArray) (r : ByteArray) (w : World) (hr0 : Kd.C Kd.string w A0 l0.length l0) (hc0 : l0.length ≤ c0) (h : strings_Join.f l0 a1 = some r) :
  Calls Tryz.prog 27 #[.slice A0 l0.length c0, .string a1] w fun e w' => e = .returned (.string r) ∧ Below w.heap.size w w' := by
 unfold strings_Join.f at h
 split at h
 ·rename_i hs
  obtain rfl := Option.some.inj h
  rcases Nat.eq_zero_or_pos l0.length with h0 | h0
  ·obtain rfl := List.eq_nil_of_length_eq_zero h0
   exact (Tryz.strings_Join_none A0 c0 a1 w).mono fun e w' ⟨he, hw⟩ => ⟨he, by subst hw; exact Below.refl _ _⟩
  ·obtain ⟨bk, o, rfl, hb, hc⟩ := texts_at hr0 h0
   exact Tryz.strings_Join bk o c0 l0 a1 w hc hb hs.1 hc0 hs.2
 ·cases h
end Go.Proofs.YtejdmofljifkbaaGreatDoor.P
