/- glob's compiler: set: what a set's text makes. -/
import Derived.Test.YtkgldphpkglcmaaGlD
import Derived.Test.YtkgldphpkglcmaaShelfB
import Derived.Deep.LoopGhost
namespace Go.Proofs.Ytkgldphpkglcmaa.Gl
open Go.RowKit Go.Proofs.YtkgldphpkglcmaaW.PrintWords Go.Proofs.YtkgldphpkglcmaaW.PrintLast Go.Proofs.YtkgldphpkglcmaaW.PrintMore
set_option linter.unusedSimpArgs false
set_option linter.unusedVariables false
/-! ### prefixes of one byte -/
theorem pre1 (l : List UInt8) (c : UInt8) : Lib.hasPrefix l [c] = (l.head? == some c) := by
  cases l with
  | nil => rfl
  | cons a t =>
    show ([c].isPrefixOf (a :: t)) = _
    rw [List.head?_cons, Bool.eq_iff_iff]
    simp [List.isPrefixOf]
    exact eq_comm
theorem has1 (l : List UInt8) (c : UInt8) (w : World) : Calls Try.prog 22 #[.string (tx l), .string ⟨#[c]⟩] w fun e w' => e = .returned (.bool (l.head? == some c)) ∧ w = w' := by
  refine (Try.strings_HasPrefix _ _ w).mono ?_
  rintro e w' ⟨rfl, rfl⟩
  refine ⟨?_, rfl⟩
  show Ending.returned (.bool (Lib.hasPrefix l [c])) = _
  rw [pre1]
theorem cut1 (l : List UInt8) (c : UInt8) (w : World) : Calls Try.prog 30 #[.string (tx l), .string ⟨#[c]⟩] w fun e w' =>
    e = .returned (.tuple #[.string (tx (if l.head? = some c then l.tail else l)), .bool (l.head? == some c)]) ∧ w = w' := by
  refine (Try.strings_CutPrefix _ _ w).mono ?_
  rintro e w' ⟨rfl, rfl⟩
  refine ⟨?_, rfl⟩
  show Ending.returned (.tuple #[.string ⟨(Lib.trimPrefix l [c]).toArray⟩, .bool (Lib.hasPrefix l [c])]) = _
  unfold Lib.trimPrefix
  rw [pre1]
  have e : (if (l.head? == some c) = true then l.drop [c].length else l) = if l.head? = some c then l.tail else l := by
    by_cases h : l.head? = some c
    · rw [if_pos (by simpa using h), if_pos h]; exact List.drop_one
    · rw [if_neg (by simpa using h), if_neg h]
  rw [e]
  rfl
/-! ### a struct's block -/
def Pb (w : World) (H : Nat) (x : Pc) : Prop := w.heap[H]? = some (.cells (pcs x).toArray 53 (0, 0))
theorem Pb.cell {w : World} {H : Nat} {k : Int} {f : List Bool} (h : Pb w H (k, f)) (hf : f.length = 256) (i : Nat) (hi : i < 256) : w.cell? ⟨H, 1 + i, none⟩ = some (.bool (f.getD i false)) := by
  rw [cell_of_row w H (1 + i) _ 53 (0, 0) h, Nat.add_comm]
  simp only [pcs, List.getElem?_toArray, List.getElem?_cons_succ, List.getElem?_map]
  rw [List.getD_eq_getElem?_getD, List.getElem?_eq_getElem (by omega)]
  rfl
theorem Pb.kind {w : World} {H : Nat} {k : Int} {f : List Bool} (h : Pb w H (k, f)) : w.cell? ⟨H, 0, none⟩ = some (.int .i64 k) := by
  rw [cell_of_row w H 0 _ 53 (0, 0) h]
  rfl
theorem Pb.fr {w : World} {H : Nat} {x : Pc} (h : Pb w H x) (i : Nat) : w.frozen? ⟨H, i, none⟩ = false := frozen_of_row w H i _ 53 h
theorem Pb.set {w : World} {H : Nat} {k : Int} {f : List Bool} (h : Pb w H (k, f)) (i : Nat) (c : Bool) : Pb (w.setCell ⟨H, 1 + i, none⟩ (.bool c)) H (k, f.set i c) := by
  have := heap_setCell_same w H (1 + i) _ 53 (.bool c) h
  rw [pcs_set] at this
  exact this
theorem Pb.lt {w : World} {H : Nat} {x : Pc} (h : Pb w H x) : H < w.heap.size := by
  unfold Pb at h
  exact (Array.getElem?_eq_some_iff.1 h).1
theorem Pb.range {w : World} {H : Nat} {x : Pc} (h : Pb w H x) : w.rangeAt H 0 (pcs x) := by
  intro j u hu
  have := World.news_of_block (cs := (pcs x).toArray) (t := 53) (fr := (0, 0)) h j u hu
  rwa [Addr.add_mid] at this
theorem Pb.ne {w w0 : World} {H B g : Nat} {x : Pc} {l : List UInt8} {ps : List Pc} {b : Bool} {v : Value} (h : Pb w H x) (hS : CS w0 w B g l ps b v) : H ≠ g := by
  rintro rfl
  have hb := hS.blk
  unfold Cm at hb
  unfold Pb at h
  rw [hb] at h
  injection h with h
  injection h with _ ht
  exact absurd ht (by decide)
theorem Pb.kept {w w1 : World} {H g : Nat} {x : Pc} (h : Pb w H x) (hg : w.grownBy w1 (some g)) (hne : H ≠ g) : Pb w1 H x :=
  (hg.block H h.lt (fun e => hne (by injection e))).trans h
theorem CS.far {w0 w : World} {B g H : Nat} {x : Pc} {l : List UInt8} {ps : List Pc} {b : Bool} {v : Value} (hS : CS w0 w B g l ps b v) (h : Pb w H x) (hB : B ≤ H) (hv : v.ownBlock ≠ some H) (i : Nat) (u : Value) :
    CS w0 (w.setCell ⟨H, i, none⟩ u) B g l ps b v :=
  ⟨(Below.heap_setCell w _ u g (fun e => h.ne hS e.symm)).trans hS.blk, hS.hg, own_move hS.own (fun k hk => Below.heap_setCell w _ u k (by rintro rfl; exact hv hk)), hS.bel.setCell hB u, hS.len⟩
/-! ### the plain side -/
def rngS (f : List Bool) (a n : Nat) : List Bool := (List.range n).foldl (fun f j => f.set (a + j) true) f
theorem rngS_succ (f : List Bool) (a n : Nat) : rngS f a (n + 1) = (rngS f a n).set (a + n) true := by simp [rngS, List.range_succ]
theorem rngS_len (f : List Bool) (a n : Nat) : (rngS f a n).length = f.length := by
  induction n with
  | zero => rfl
  | succ n ih => rw [rngS_succ, List.length_set, ih]
/-- a part of a set: its first and its last byte, what is left, whether it is wrong. -/
def partLo (l : List UInt8) : UInt8 := memC l
def partTwo (l : List UInt8) : Bool := (memR l).head? == some 45
def partHi (l : List UInt8) : UInt8 := if partTwo l then memC (memR l).tail else memC l
def partR (l : List UInt8) : List UInt8 := if partTwo l then memR (memR l).tail else memR l
def partB (l : List UInt8) : Bool := if partTwo l then memB l || memB (memR l).tail else memB l
def partBad (l : List UInt8) : Bool := partB l || decide ((partHi l).toNat < (partLo l).toNat)
/-- the parts of a set: out of rounds; else none where it is wrong. -/
def setL : Nat → Bool → List UInt8 → List Bool → Option (Option (List UInt8 × List Bool))
  | 0, _, _, _ => none
  | k + 1, first, l, f => if first = false ∧ l.head? = some 93 then some (some (l, f)) else
    if partBad l = true then some none else setL k false (partR l) (rngS f (partLo l).toNat ((partHi l).toNat + 1 - (partLo l).toNat))
def flip (f : List Bool) (k : Nat) : List Bool := (f.take k).map (!·) ++ f.drop k
theorem flip_len (f : List Bool) (k : Nat) : (flip f k).length = f.length := by simp [flip]; omega
theorem flip_succ (f : List Bool) (k : Nat) (h : k < f.length) : (flip f k).set k (!((flip f k).getD k false)) = flip f (k + 1) := by
  have h1 : ((f.take k).map (!·)).length = k := by simp; omega
  have hd : f.drop k = f[k] :: f.drop (k + 1) := List.drop_eq_getElem_cons h
  have e1 : (flip f k).getD k false = f[k] := by
    rw [List.getD_eq_getElem?_getD]
    unfold flip
    rw [List.getElem?_append_right (by omega), h1, Nat.sub_self, hd]
    rfl
  rw [e1]
  unfold flip
  rw [List.set_append_right _ _ (by omega), h1, Nat.sub_self, hd, List.set_cons_zero, List.take_succ_eq_append_getElem h, List.map_append, List.append_assoc]
  rfl
/-- the set that is made: turned or not, without /. -/
def fin47 (f : List Bool) (not : Bool) : List Bool := (if not then flip f 256 else f).set 47 false
theorem fin47_len (f : List Bool) (not : Bool) (h : f.length = 256) : (fin47 f not).length = 256 := by
  unfold fin47
  rw [List.length_set]
  split
  · rw [flip_len]; exact h
  · exact h
def setStart (l : List UInt8) : List UInt8 := if l.head? = some 33 then l.tail else l
def setNot (l : List UInt8) : Bool := l.head? == some 33

theorem cutBang (l : List UInt8) (w : World) : Calls Try.prog 30 #[.string (tx l), .string ⟨#[33]⟩] w fun e w' => e = .returned (.tuple #[.string (tx (setStart l)), .bool (setNot l)]) ∧ w = w' := cut1 l 33 w
theorem CS.alloc {w0 w : World} {B g : Nat} {l : List UInt8} {ps : List Pc} {b : Bool} {v : Value} (h : CS w0 w B g l ps b v) (o : Obj) : CS w0 (w.alloc o) B g l ps b v :=
  ⟨(Below.heap_alloc w _ g h.glt).trans h.blk, h.hg, h.own.alloc _, h.bel.alloc (Nat.le_trans h.hg (Nat.le_of_lt h.glt)) _, h.len⟩
def SetPost (w0 w' : World) (B g : Nat) (ps : List Pc) (not : Bool) : Option (List UInt8 × List Bool) → Prop
  | none => ∃ l' v', CS w0 w' B g l' ps true v'
  | some (l2, f) => ∃ v', CS w0 w' B g l2.tail (ps ++ [(0, fin47 f not)]) false v'
set_option maxRecDepth 100000 in
set_option maxHeartbeats 3200000 in
theorem set_any {w0 w : World} {B g : Nat} {L : List UInt8} {ps : List Pc} {v : Value} (K : Nat) (r : Option (List UInt8 × List Bool)) (hr : setL K true (setStart L) zs = some r) (h : CS w0 w B g L ps false v) (hlenA : (ps.length + 1) * 264 ≤ 140737488355328) :
    Calls Try.prog 23 #[.pointer (some ⟨g, 0, none⟩)] w fun e w' => e = .returned (.tuple #[]) ∧ SetPost w0 w' B g ps (setNot L) r := by
  have hB : B ≤ w.heap.size := Nat.le_trans h.hg (Nat.le_of_lt h.glt)
  have HR := Lib.hid hr
  clear hr
  have hS1 := h.set (i := 0) (h.blk.s0 (setStart L))
  have hS0 : CS w0 ((w.setCell ⟨g, 0, none⟩ (.string (tx (setStart L)))).alloc (.cells Try.zeroCells53 53)) B g (setStart L) ps false v := hS1.alloc _
  have hP0 : Pb ((w.setCell ⟨g, 0, none⟩ (.string (tx (setStart L)))).alloc (.cells Try.zeroCells53 53)) w.heap.size (0, zs) := by
    rw [zero65]
    have h1 := heap_alloc_new (w.setCell ⟨g, 0, none⟩ (.string (tx (setStart L)))) (.cells (pcs (0, zs)).toArray 53)
    have h2 : (w.setCell ⟨g, 0, none⟩ (.string (tx (setStart L)))).heap.size = w.heap.size := by simp [World.setCell]
    rw [h2] at h1
    exact h1
  have hv0 : v.ownBlock ≠ some w.heap.size := fun e => by have := own_lt h.own _ e; omega
  have hc0' := h.blk.c0
  have hf0' := h.blk.fr 0
  have hgl := h.glt
  have HP0 := Lib.hid hP0
  have HS0 := Lib.hid hS0
  have HV0 := Lib.hid hv0
  clear hP0 hS0 hv0 h hS1
  obtain ⟨not, hn⟩ : ∃ b, setNot L = b := ⟨_, rfl⟩
  rw [hn]
  have HN := Lib.hid hn
  clear hn
  go_enter Try.func23, Try.ntmps23
  go_wp2_with fail
  refine (cutBang _ _).mono ?_
  rintro e w' ⟨rfl, rfl⟩
  rw [HN.out]
  clear HN
  go_wp2_with fail
  have hP := HP0.out
  have hS := HS0.out
  have hv := HV0.out
  clear hc0' hf0' hgl HP0 HS0 HV0
  generalize (w.setCell ⟨g, 0, none⟩ (.string (tx (setStart L)))).alloc (.cells Try.zeroCells53 53) = W1 at *
  generalize hH : w.heap.size = H at *
  have hHB : B ≤ H := by omega
  clear hB hH
  generalize setStart L = l1 at *
  clear w
  go_loopg [5] K (fun gk v5 w' => ∃ (first : Bool) (l1 : List UInt8) (f : List Bool), v5 = .bool first ∧ CS w0 w' B g l1 ps false v ∧ Pb w' H (0, f) ∧ f.length = 256 ∧ Aside0 (setL gk first l1 f = some r) ∧ gk ≤ K)
  case atStart => exact ⟨true, l1, zs, rfl, hS, hP, zs_len, ⟨HR.out⟩, Nat.le_refl _⟩
  case round =>
    clear hS hP HR
    obtain ⟨first, l, f, rfl, hS, hP, hf, hR, hk⟩ := hrel
    have HF := Lib.hid hf
    clear hf
    cases gk with
    | zero => exact absurd hR.out (by simp [setL])
    | succ k =>
      have hR1 := hR.out
      clear hR
      simp only [setL] at hR1
      have hc0 := hS.blk.c0
      by_cases hstop : first = false ∧ l.head? = some 93
      · rw [if_pos hstop] at hR1
        have hR2 := Option.some.inj hR1
        have HR2 := Lib.hid hR2
        clear hR1 hR2
        obtain ⟨rfl, hh⟩ := hstop
        have q : (l.head? == some 93) = true := by rw [hh]; rfl
        have hemp : l.isEmpty = false := by cases l with | nil => cases hh | cons a t => rfl
        have HQ := Lib.hid q
        have HE := Lib.hid hemp
        clear q hemp hh
        go_wp2_with fail
        refine (has1 l 93 _).mono ?_
        rintro e w' ⟨rfl, rfl⟩
        rw [HQ.out]
        go_wp2_with fail
        refine (take_any hS).mono ?_
        rintro e w1 ⟨rfl, hS1, k1⟩
        have hP1 := hP.kept k1 (hP.ne hS)
        rw [HE.out] at hS1
        clear hS hP hc0 k1
        go_upto_if 68 with (fail)
        go_cut [] (fun wc => CS w0 wc B g l.tail ps false v ∧ Pb wc H (0, if not then flip f 256 else f))
        case first =>
          cases not with
          | false =>
            go_wp2
            go_meet
            case rel => exact ⟨hS1, hP1⟩
          | true =>
            go_wp2
            go_loopw [69, 9] (fun i _ wr => ∃ j : Nat, j ≤ 256 ∧ i = .int .i64 (j : Int) ∧ CS w0 wr B g l.tail ps false v ∧ Pb wr H (0, flip f j)) (fun i _ _ => (256 - intOf i).toNat)
            case atStart => exact ⟨0, by omega, rfl, hS1, by simpa [flip] using hP1⟩
            case round =>
              clear hS1 hP1
              obtain ⟨j, hj, rfl, hS1, hP1⟩ := hrel
              by_cases hj2 : j < 256
              · have hfl : (flip f j).length = 256 := by rw [flip_len]; exact HF.out
                have hcj := hP1.cell hfl j hj2
                have hfj := hP1.fr (1 + j)
                have hP2 := hP1.set j (!((flip f j).getD j false))
                rw [flip_succ f j (by rw [HF.out]; exact hj2)] at hP2
                have hS2 := hS1.far hP1 hHB hv (1 + j) (.bool (!((flip f j).getD j false)))
                have HP2 := Lib.hid hP2
                have HS2 := Lib.hid hS2
                have HL := Lib.hid hfl
                clear hP2 hS2 hfl hP1 hS1
                generalize (flip f j).getD j false = bb at *
                go_wp2
                go_roundw
                case rel => exact ⟨j + 1, by omega, by go_num, HS2.out, HP2.out⟩
                case measure => simp [intOf]; omega
              · obtain rfl : j = 256 := by omega
                go_wp2
                go_meet
                case rel => exact ⟨hS1, hP1⟩
        case rest =>
          obtain ⟨hS2, hP2⟩ := hcut
          clear hS1 hP1
          have hFl : (if not = true then flip f 256 else f).length = 256 := by
            split
            · rw [flip_len]; exact HF.out
            · exact HF.out
          have hxe : fin47 f not = (if not = true then flip f 256 else f).set 47 false := rfl
          have HXE := Lib.hid hxe
          clear hxe
          generalize (if not = true then flip f 256 else f) = F at *
          have hc47 : wc.cell? ⟨H, 48, none⟩ = some (.bool (F.getD 47 false)) := hP2.cell hFl 47 (by omega)
          have hf47 : wc.frozen? ⟨H, 48, none⟩ = false := hP2.fr 48
          have hP3 : Pb (wc.setCell ⟨H, 48, none⟩ (.bool false)) H (0, F.set 47 false) := hP2.set 47 false
          have hS3 := hS2.far hP2 hHB hv 48 (.bool false)
          have hx3 : ((0, F.set 47 false) : Pc).2.length = 256 := by rw [List.length_set]; exact hFl
          have HP3 := Lib.hid hP3
          have HS3 := Lib.hid hS3
          have HX3 := Lib.hid hx3
          clear hP3 hS3 hx3 hP2 hS2 hFl
          go_wp2_with fail
          clear hc47 hf47
          have hS := HS3.out
          have hr := HP3.out.range
          obtain ⟨x, hxx⟩ : ∃ x : Pc, x = (0, F.set 47 false) := ⟨_, rfl⟩
          have hx : x.2.length = 256 := by rw [hxx]; exact HX3.out
          rw [← hxx] at hr
          rw [← HXE.out] at hxx
          clear HP3 HS3 HX3
          generalize wc.setCell ⟨H, 48, none⟩ (.bool false) = W1 at *
          obtain ⟨i65, hi65, hzz⟩ := Option.map_eq_some_iff.1 info65
          simp only [Prod.mk.injEq] at hzz
          obtain ⟨hz65, hs65, hb65⟩ := hzz
          refine start_ (n := 11) (S := fun w' => w'.cell? ⟨g, 1, none⟩ = some v ∧ w'.rangeAt H 0 (pcs x)) (ds := [7, 10]) #[false, false, false, false, false, false, false, false, false, false, false] (by kernel_rfl) rfl rfl ⟨(reg_c0 hS), (reg_r0 hr)⟩ (fun hHeld => ?_)
          refine pure_ (i := 0) (N := some 83) (v := ?_) (a' := ?_) #[true, false, false, false, false, false, false, false, false, false, false] rfl rfl (by kernel_rfl) (fun _ _ _ h => h) (Or.inl ⟨by rfl, ?_⟩) ?_ ?_
          rotate_left
          · intro w'
            go_simp
            with_reducible rfl
          rotate_left
          · simp only [Act.put, List.setIfInBounds_toArray, List.set_cons_zero, List.set_cons_succ, i64_w, i32_w]
            rfl
          refine pure_ (i := 1) (N := some 84) (v := ?_) (a' := ?_) #[true, true, false, false, false, false, false, false, false, false, false] rfl rfl (by kernel_rfl) (fun _ _ _ h => h) (Or.inl ⟨by rfl, ?_⟩) ?_ ?_
          rotate_left
          · intro w'
            go_simp
            with_reducible rfl
          rotate_left
          · simp only [Act.put, List.setIfInBounds_toArray, List.set_cons_zero, List.set_cons_succ, i64_w, i32_w]
            rfl
          refine pure_ (i := 2) (N := some 85) (v := ?_) (a' := ?_) #[true, true, true, false, false, false, false, false, false, false, false] rfl rfl (by kernel_rfl) (fun _ _ _ h => h) (Or.inl ⟨by rfl, ?_⟩) ?_ ?_
          rotate_left
          · intro w'
            go_simp
            with_reducible rfl
          rotate_left
          · simp only [Act.put, List.setIfInBounds_toArray, List.set_cons_zero, List.set_cons_succ, i64_w, i32_w]
            rfl
          refine pure_ (i := 3) (N := some 86) (v := ?_) (a' := ?_) #[true, true, true, true, false, false, false, false, false, false, false] rfl rfl (by kernel_rfl) (fun _ _ _ h => h) (Or.inl ⟨by rfl, ?_⟩) ?_ ?_
          rotate_left
          · intro w'
            go_simp
            with_reducible rfl
          rotate_left
          · simp only [Act.put, List.setIfInBounds_toArray, List.set_cons_zero, List.set_cons_succ, i64_w, i32_w]
            rfl
          refine take_ (i := 4) (N := some 87) (v := ?_) (a' := ?_) #[true, true, true, true, true, false, false, false, false, false, false] rfl rfl (by kernel_rfl) (fun _ _ _ h => h) (Or.inl ⟨by rfl, ?_⟩) hHeld ?_ ?_
          rotate_left
          · rintro w' ⟨s0, s1⟩
            go_simp
            with_reducible rfl
          rotate_left
          · simp only [Act.put, List.setIfInBounds_toArray, List.set_cons_zero, List.set_cons_succ, i64_w, i32_w]
            rfl
          refine take_ (i := 5) (N := some 88) (v := .agg (pcs x).toArray) (a' := ?_) #[true, true, true, true, true, true, false, false, false, false, false] rfl rfl (by kernel_rfl) (fun _ _ _ h => h) (yieldsIf_load_mid (by rfl) 53 (.tmp 2) rfl H 0 rfl (pcs x) _ (fun w' hs => hs.2) Try.underlying53 rfl (by rw [pcs_len x hx]; exact size65)) hHeld ?_ ?_
          rotate_left
          · simp only [Act.put, List.setIfInBounds_toArray, List.set_cons_zero, List.set_cons_succ, i64_w, i32_w]
            rfl
          refine one_ (i := 6) (N := some 89) #[true, true, true, true, true, true, true, false, false, false, false] rfl rfl (by kernel_rfl) (by decide) (fun K hK => ?_)
          refine value_ (w1 := W1.drew.alloc (.cells (pcs x).toArray 53)) (v := .slice (some ⟨W1.heap.size, 0, none⟩) 1 1) (by rfl) rfl ?_ ?_
          · exact exec_one (.tmp 88) rfl x hx rfl W1.drew
          refine hK.out _ _ ⟨(reg_c hS), (reg_r hr)⟩ (fun hHeld => ?_)
          clear hK K
          refine norm_ (a' := ?_) ?_ ?_
          rotate_left
          · show Act.put _ (some 89) _ = _
            simp only [Act.put, List.setIfInBounds_toArray, List.set_cons_zero, List.set_cons_succ, i64_w, i32_w]
            rfl
          refine last_ (i := 7) (N := some 90) #[true, true, true, true, true, true, true, true, false, false, false] rfl rfl (by kernel_rfl) (by decide) (fun K hK => ?_)
          refine step_append_lies _ rfl (.tmp 87) (.tmp 89) 34 rfl B 53 i65 _ 257 264 Try.underlying34 hi65 hz65 hs65 hb65 (zsz65) (by omega) v ps.length (rowOf ps) rfl (reg_o hS) ⟨W1.heap.size, 0, none⟩ 1 1 (pcs x) rfl (by rw [pcs_len x hx]) (reg_n W1 x) (pcs_one x) (by omega) (by unfold maxLen; omega) hlenA (reg_b hS) _ rfl ?_
          intro g2 cap w2 hown2 hgr2 hat2 hlt2
          have c1 := reg_c2 hS hgr2
          have f1 := reg_f2 hS hgr2
          refine hK.out _ _ ?_
          clear hK K
          refine norm_ (a' := ?_) ?_ ?_
          rotate_left
          · show Act.put _ (some 90) _ = _
            simp only [Act.put, List.setIfInBounds_toArray, List.set_cons_zero, List.set_cons_succ, i64_w, i32_w]
            rfl
          refine pure_ (i := 8) (N := some 91) (v := ?_) (a' := ?_) #[true, true, true, true, true, true, true, true, true, false, false] rfl rfl (by kernel_rfl) (fun _ _ _ h => h) (Or.inl ⟨by rfl, ?_⟩) ?_ ?_
          rotate_left
          · intro w'
            go_simp
            with_reducible rfl
          rotate_left
          · simp only [Act.put, List.setIfInBounds_toArray, List.set_cons_zero, List.set_cons_succ, i64_w, i32_w]
            rfl
          refine pure_ (i := 9) (N := some 92) (v := ?_) (a' := ?_) #[true, true, true, true, true, true, true, true, true, true, false] rfl rfl (by kernel_rfl) (fun _ _ _ h => h) (Or.inl ⟨by rfl, ?_⟩) ?_ ?_
          rotate_left
          · intro w'
            go_simp
            with_reducible rfl
          rotate_left
          · simp only [Act.put, List.setIfInBounds_toArray, List.set_cons_zero, List.set_cons_succ, i64_w, i32_w]
            rfl
          refine last_ (i := 10) (N := none) #[true, true, true, true, true, true, true, true, true, true, true] rfl rfl (by kernel_rfl) (by decide) (fun K hK => ?_)
          refine skip_ (w1 := w2.setCell ⟨g, 1, none⟩ (.slice (some ⟨g2, 0, none⟩) (ps.length + 1) cap)) (by rfl) rfl ?_ ?_
          · go_simp
          refine hK.out _ _ ?_
          clear hK K
          refine done_ (by kernel_rfl) ?_
          go_wp2
          go_end0
          refine ⟨rfl, ?_⟩
          rw [← HR2.out]
          have hfin := hS.push hx hown2 hgr2
          rw [hxx] at hfin
          exact ⟨_, hfin⟩
      · rw [if_neg hstop] at hR1
        have HR1 := Lib.hid hR1
        clear hR1
        go_upto_region 4 with (fail)
        go_cut [30] (fun v30 wc => v30 = .bool true ∧ wr = wc)
        case first =>
          cases first with
          | true =>
            go_wp2
            go_meet
            case rel => exact ⟨rfl, rfl⟩
          | false =>
            have q : (l.head? == some 93) = false := by
              rw [beq_eq_false_iff_ne]
              exact fun hh => hstop ⟨rfl, hh⟩
            have HQ := Lib.hid q
            clear q hstop
            go_wp2_with fail
            refine (has1 l 93 _).mono ?_
            rintro e w' ⟨rfl, rfl⟩
            rw [HQ.out]
            go_wp2
            go_meet
            case rel => exact ⟨rfl, rfl⟩
        case rest =>
          obtain ⟨rfl, rfl⟩ := hcut
          go_wp2_with fail
          refine (member_any hS).mono ?_
          rintro e w1 ⟨rfl, hS1, k1⟩
          have hP1 := hP.kept k1 (hP.ne hS)
          rw [Bool.false_or] at hS1
          have hc1 := hS1.blk.c0
          clear hS hP hc0 k1 hstop
          go_wp2_with fail
          refine (has1 (memR l) 45 _).mono ?_
          rintro e w' ⟨rfl, rfl⟩
          obtain ⟨b2, hb2⟩ : ∃ b, ((memR l).head? == some 45) = b := ⟨_, rfl⟩
          rw [hb2]
          have HB2 := Lib.hid hb2
          clear hb2
          go_upto_if 38 with (fail)
          go_cut [7] (fun v7 wc => v7 = .int .u8 ((partHi l).toNat : Int) ∧ CS w0 wc B g (partR l) ps (partB l) v ∧ Pb wc H (0, f))
          case first =>
            cases b2 with
            | false =>
              have F : partHi l = memC l ∧ partR l = memR l ∧ partB l = memB l := by
                unfold partHi partR partB
                rw [show partTwo l = false from HB2.out]
                exact ⟨rfl, rfl, rfl⟩
              have HFF := Lib.hid F
              clear F
              go_wp2
              go_meet
              case rel => rw [HFF.out.1, HFF.out.2.1, HFF.out.2.2]; exact ⟨rfl, hS1, hP1⟩
            | true =>
              have hemp : (memR l).isEmpty = false := by
                have h1 := HB2.out
                cases hq : memR l with
                | nil => rw [hq] at h1; exact absurd h1 (by decide)
                | cons a t => rfl
              have F : partHi l = memC (memR l).tail ∧ partR l = memR (memR l).tail ∧ partB l = ((memB l || (memR l).isEmpty) || memB (memR l).tail) := by
                unfold partHi partR partB
                rw [show partTwo l = true from HB2.out, hemp, Bool.or_false]
                exact ⟨rfl, rfl, rfl⟩
              have HFF := Lib.hid F
              clear F hemp
              go_wp2_with fail
              refine (take_any hS1).mono ?_
              rintro e w2 ⟨rfl, hS2, k2⟩
              have hP2 := hP1.kept k2 (hP1.ne hS1)
              clear hS1 hP1 k2 hc1
              go_wp2_with fail
              refine (member_any hS2).mono ?_
              rintro e w3 ⟨rfl, hS3, k3⟩
              have hP3 := hP2.kept k3 (hP2.ne hS2)
              clear hS2 hP2 k3
              go_wp2
              go_meet
              case rel => rw [HFF.out.1, HFF.out.2.1, HFF.out.2.2]; exact ⟨rfl, hS3, hP3⟩
          case rest =>
            clear hS1 hP1 hc1 HB2
            obtain ⟨rfl, hS, hP⟩ := hcut
            have hc2 := hS.blk.c2
            have hf2 := hS.blk.fr 2
            have hbad := hS.set (i := 2) (hS.blk.s2 true)
            have HBAD := Lib.hid hbad
            clear hbad
            cases hb : partB l with
            | true =>
              have hrn : r = none := by
                have h1 := HR1.out
                rw [if_pos (show partBad l = true by unfold partBad; rw [hb]; rfl)] at h1
                exact (Option.some.inj h1).symm
              subst hrn
              rw [hb] at hc2
              have Hb := Lib.hid hb
              clear hb hS hP
              go_wp2
              refine bodyPost_ret (results_none rfl _ _ _) rfl ?_
              exact ⟨rfl, _, _, HBAD.out⟩
            | false =>
              rw [hb] at hc2 hS
              have Hb := Lib.hid hb
              clear hb
              cases hd : decide ((partHi l).toNat < (memC l).toNat) with
              | true =>
                have hrn : r = none := by
                  have h1 := HR1.out
                  rw [if_pos (show partBad l = true by unfold partBad; rw [Hb.out]; exact decide_eq_true (by have := of_decide_eq_true hd; unfold partLo; omega))] at h1
                  exact (Option.some.inj h1).symm
                subst hrn
                clear hS hP
                go_wp2
                refine bodyPost_ret (results_none rfl _ _ _) rfl ?_
                exact ⟨rfl, _, _, HBAD.out⟩
              | false =>
                have hlh : (memC l).toNat ≤ (partHi l).toNat := by have := of_decide_eq_false hd; omega
                have hh256 : (partHi l).toNat < 256 := (partHi l).toNat_lt
                have hR3 : setL k false (partR l) (rngS f (partLo l).toNat ((partHi l).toNat + 1 - (partLo l).toNat)) = some r := by
                  have h1 := HR1.out
                  rw [if_neg (show ¬ partBad l = true by unfold partBad; rw [Hb.out, Bool.false_or, decide_eq_true_eq]; unfold partLo; omega)] at h1
                  exact h1
                have HR3 := Lib.hid hR3
                clear hR3 HBAD
                have hlo : partLo l = memC l := rfl
                rw [hlo] at HR3
                clear hlo
                generalize (memC l).toNat = lo at *
                generalize (partHi l).toNat = hi at *
                go_wp2
                go_loopw [8] (fun i wx => ∃ j : Nat, lo + j ≤ hi + 1 ∧ i = .int .i64 ((lo : Int) + (j : Int)) ∧ CS w0 wx B g (partR l) ps false v ∧ Pb wx H (0, rngS f lo j)) (fun i _ => (hi + 1 - intOf i).toNat)
                case atStart => exact ⟨0, by omega, by go_num, hS, hP⟩
                case round =>
                  clear hS hP hc2 hf2
                  obtain ⟨j, hj, rfl, hS, hP⟩ := hrel
                  by_cases hj2 : lo + j ≤ hi
                  · have hfl : (rngS f lo j).length = 256 := by rw [rngS_len]; exact HF.out
                    have hcj := hP.cell hfl (lo + j) (by omega)
                    have hfj := hP.fr (1 + (lo + j))
                    have hP2 := hP.set (lo + j) true
                    rw [← rngS_succ] at hP2
                    have hS2 := hS.far hP hHB hv (1 + (lo + j)) (.bool true)
                    have HP2 := Lib.hid hP2
                    have HS2 := Lib.hid hS2
                    have HL := Lib.hid hfl
                    clear hP2 hS2 hfl hP hS
                    generalize (rngS f lo j).getD (lo + j) false = bb at *
                    go_wp2
                    go_roundw
                    case rel => exact ⟨j + 1, by omega, by go_num, HS2.out, HP2.out⟩
                    case measure => simp [intOf]; omega
                  · obtain rfl : j = hi + 1 - lo := by omega
                    go_wp2
                    go_roundg k
                    case measure => omega
                    case rel => exact ⟨false, partR l, _, rfl, hS, hP, by rw [rngS_len]; exact HF.out, ⟨HR3.out⟩, by omega⟩
end Go.Proofs.Ytkgldphpkglcmaa.Gl
