/- glob's compile: the pieces of a pattern, or that it is none. -/
import Derived.Test.YtkgldphpkglcmaaGlE
import Derived.BigQuiet
import Derived.Deep.QuietTactic
namespace Go.Proofs.Ytkgldphpkglcmaa.Gl
open Go.RowKit Go.Proofs.YtkgldphpkglcmaaW.PrintWords Go.Proofs.YtkgldphpkglcmaaW.PrintLast Go.Proofs.YtkgldphpkglcmaaW.PrintMore
set_option linter.unusedSimpArgs false
set_option linter.unusedVariables false
/-- all bytes below j but /. -/
def qs (j : Nat) : List Bool := (List.range 256).map fun i => decide (i < j) && i != 47
theorem qs_len (j : Nat) : (qs j).length = 256 := by simp [qs]
theorem qs_zero : qs 0 = zs := by decide +kernel
theorem qs_succ (j : Nat) (hj : j < 256) : (qs j).set j (j != 47) = qs (j + 1) := by
  apply List.ext_getElem
  · simp [qs]
  · intro i h1 h2
    have hi : i < 256 := by rw [qs_len] at h2; exact h2
    rw [List.getElem_set]
    simp only [qs, List.getElem_map, List.getElem_range]
    split
    · rename_i e; subst e; rw [decide_eq_true (by omega)]; rfl
    · rename_i e
      congr 1
      rw [decide_eq_decide]
      omega
def setK (go : List UInt8 → List Pc → Option (Option (List Pc))) (t : List UInt8) (ps : List Pc) : Option (Option (List UInt8 × List Bool)) → Option (Option (List Pc))
  | none => none
  | some none => some none
  | some (some (l2, f)) => go l2.tail (ps ++ [(0, fin47 f (setNot t))])
def escK (go : List UInt8 → List Pc → Option (Option (List Pc))) (ps : List Pc) : List UInt8 → Option (Option (List Pc))
  | [] => some none
  | d :: t' => go t' (ps ++ [(0, zs.set d.toNat true)])
/-- the pieces of a pattern: out of rounds; else none where it is no pattern. -/
def compL : Nat → List UInt8 → List Pc → Option (Option (List Pc))
  | 0, _, _ => none
  | k + 1, l, ps => match l with
    | [] => some (some ps)
    | c :: t =>
      if c = 42 then (if t.head? = some 42 then compL k t.tail (ps ++ [(2, zs)]) else compL k t (ps ++ [(1, zs)]))
      else if c = 63 then compL k t (ps ++ [(0, qs 256)])
      else if c = 91 then setK (compL k) t ps (setL (t.length + 2) true (setStart t) zs)
      else if c = 92 then escK (compL k) ps t
      else compL k t (ps ++ [(0, zs.set c.toNat true)])
theorem memR_len (l : List UInt8) : (memR l).length ≤ l.length := by unfold memR; split <;> simp <;> omega
theorem partR_len (l : List UInt8) : (partR l).length ≤ l.length := by
  unfold partR
  have h1 := memR_len l
  split
  · have h2 := memR_len (memR l).tail
    simp at h2
    omega
  · exact h1
theorem setL_len : ∀ (k : Nat) (first : Bool) (l : List UInt8) (f : List Bool) (l2 : List UInt8) (f2 : List Bool), setL k first l f = some (some (l2, f2)) → l2.length ≤ l.length
  | 0, _, _, _, _, _, h => by simp [setL] at h
  | k + 1, first, l, f, l2, f2, h => by
    simp only [setL] at h
    split at h
    · simp at h; rw [h.1]; exact Nat.le_refl _
    · split at h
      · simp at h
      · exact Nat.le_trans (setL_len k false _ _ l2 f2 h) (partR_len l)
theorem setStart_len (l : List UInt8) : (setStart l).length ≤ l.length := by unfold setStart; split <;> simp
section
variable {w0 W1 w2 : World} {B g H : Nat} {l : List UInt8} {ps : List Pc} {b : Bool} {v : Value} {x : Pc} {o : Obj}
theorem CS.lt (hS : CS w0 W1 B g l ps b v) : B ≤ W1.heap.size := Nat.le_trans hS.hg (Nat.le_of_lt hS.glt)
theorem rp_o (hS : CS w0 W1 B g l ps b v) : (W1.alloc o).ownsRow B 53 257 v ps.length (rowOf ps) := hS.own.alloc o
theorem rp_n (W1 : World) (x : Pc) : ∀ j u, (pcs x)[j]? = some u → (W1.alloc (.cells (pcs x).toArray 53)).cell? ((⟨W1.heap.size, 0, none⟩ : Addr).add j) = some u :=
  fun j u hu => World.news_of_block (cs := (pcs x).toArray) (t := 53) (fr := (0, 0)) (heap_alloc_new W1 _) j u hu
theorem rp_b (hS : CS w0 W1 B g l ps b v) : B ≤ (W1.alloc o).heap.size := by
  have h1 := hS.lt
  have : (W1.alloc o).heap.size = W1.heap.size + 1 := by simp
  omega
theorem rp_blk (hS : CS w0 W1 B g l ps b v) (hgr : (W1.alloc o).grownBy w2 v.ownBlock) : Cm w2 g l v b := by
  have h1 : w2.heap[g]? = (W1.alloc o).heap[g]? := hgr.block g (by have := hS.glt; simp; omega) (fun e => hS.apart e.symm)
  have h2 : (W1.alloc o).heap[g]? = W1.heap[g]? := Below.heap_alloc W1 o g hS.glt
  exact (h1.trans h2).trans hS.blk
theorem CS.push2 (hS : CS w0 W1 B g l ps b v) (hx : x.2.length = 256) {v2 : Value} (hown : w2.ownsRow B 53 257 v2 (ps.length + 1) (rowOf ps ++ pcs x)) (hgr : (W1.alloc o).grownBy w2 v.ownBlock) :
    CS w0 (w2.setCell ⟨g, 1, none⟩ v2) B g l (ps ++ [x]) b v2 := by
  have hb := rp_blk hS hgr
  have hne : v2.ownBlock ≠ some g := by
    intro e
    obtain ⟨cells, hc⟩ := own_typed hown g e
    unfold Cm at hb
    rw [hb] at hc
    injection hc with hc
    injection hc with _ ht
    exact absurd ht (by decide)
  refine ⟨hb.s1 v2, hS.hg, ?_, ?_, ?_⟩
  · rw [row_snoc, List.length_append, List.length_singleton]
    exact own_move hown (fun k hk => Below.heap_setCell w2 _ _ k (by rintro rfl; exact hne hk))
  · exact (((hS.bel.alloc hS.lt o).grown hgr (rp_b hS) (own_base hS.own))).setCell hS.hg _
  · intro y hy
    rcases List.mem_append.1 hy with hy | hy
    · exact hS.len y hy
    · rw [List.mem_singleton.1 hy]; exact hx
end
theorem wpList_build65 {ops : Array Oper} {rest : List Oper} {o : Oper} {a : Act} {w : World} {Q : Exit → Act → World → Prop} (hg : o.guard = none) (y : Operand) (ho : o.op = .buildSlice 34 1 #[(0, y)]) (x : Pc) (hx : x.2.length = 256) (hy : a.eval y = .agg (pcs x).toArray)
    (h : wpList Try.prog ops Q rest (a.put o.dst (.slice (some ⟨w.heap.size, 0, none⟩) 1 1)) (w.alloc (.cells (pcs x).toArray 53))) : wpList Try.prog ops Q (o :: rest) a w :=
  wpList_plain hg fun _ hK => by
    unfold Oper.wp
    rw [exec_one y ho x hx hy w]
    exact hK _ _ h
theorem set_kind (kd : Int) : Try.zeroCells53.setIfInBounds 0 (.int .i64 kd) = (pcs (kd, zs)).toArray := by
  rw [zero65]
  simp [pcs]
theorem qs_succI (j : Nat) (hj : j < 256) : (qs j).set j ((j : Int) != 47) = qs (j + 1) := by
  have e : ((j : Int) != 47) = (j != 47) := by
    rw [Bool.eq_iff_iff, bne_iff_ne, bne_iff_ne]
    omega
  rw [e, qs_succ j hj]
def CompPost (w w' : World) (e : Ending) : Option (List Pc) → Prop
  | none => (∃ v', e = .returned (.tuple #[v', .bool false])) ∧ Below w.heap.size w w'
  | some ps => ∃ v', e = .returned (.tuple #[v', .bool true]) ∧ w'.ownsRow w.heap.size 53 257 v' ps.length (rowOf ps) ∧ Below w.heap.size w w' ∧ ∀ x ∈ ps, x.2.length = 256

set_option maxRecDepth 100000 in
set_option maxHeartbeats 3200000 in
theorem compile_any (s : ByteArray) (K : Nat) (r : Option (List Pc)) (hr : compL K s.data.toList [] = some r) (hs : s.size ≤ 1000) (w : World) :
    Calls Try.prog 14 #[.string s] w fun e w' => CompPost w w' e r := by
  have HR := Lib.hid hr
  clear hr
  obtain ⟨l0, hl0⟩ : ∃ l0, s = tx l0 := ⟨s.data.toList, rfl⟩
  subst hl0
  have hS0 : CS w (w.alloc (.cells #[.string (tx l0), .slice none 0 0, .bool false] 49)) w.heap.size w.heap.size l0 [] false (.slice none 0 0) :=
    ⟨heap_alloc_new w _, Nat.le_refl _, own_nil _ _ _ _, (Below.refl _ _).alloc (Nat.le_refl _) _, fun x hx => by cases hx⟩
  have HS0 := Lib.hid hS0
  have hl : l0.length ≤ 1000 := by rw [tx_size] at hs; exact hs
  clear hS0 hs
  have HR' : Hid (compL K l0 [] = some r) := HR
  clear HR
  obtain ⟨i65, hi65, hzz⟩ := Option.map_eq_some_iff.1 info65
  simp only [Prod.mk.injEq] at hzz
  obtain ⟨hz65, hs65, hb65⟩ := hzz
  have INF := Lib.hid (And.intro hi65 (And.intro hz65 (And.intro hs65 hb65)))
  clear hi65 hz65 hs65 hb65
  go_enter Try.func14, Try.ntmps14
  go_wp2_with fail
  have hS := HS0.out
  clear HS0
  generalize w.alloc (.cells #[.string (tx l0), .slice none 0 0, .bool false] 49) = W0 at *
  obtain ⟨B, hBe⟩ : ∃ B, w.heap.size = B := ⟨_, rfl⟩
  rw [hBe] at hS ⊢
  have HBe := Lib.hid hBe
  clear hBe
  go_loopg [5] K (fun gk v5 w' => ∃ (l : List UInt8) (ps : List Pc) (b : Bool) (v : Value), CS w w' B B l ps b v ∧ Aside0 (if b = true then r = none else compL gk l ps = some r) ∧ (b = false → l.length + ps.length ≤ 1000) ∧ gk ≤ K)
  case atStart => exact ⟨l0, [], false, _, hS, ⟨HR'.out⟩, fun _ => hl, Nat.le_refl _⟩
  case round =>
    clear hS HR' hl
    obtain ⟨l, ps, b, v, hS, hR, hlen, hk⟩ := hrel
    have hc0 := hS.blk.c0
    cases b with
    | true =>
      have hrn : r = none := by have := hR.out; rwa [if_pos rfl] at this
      subst hrn
      clear hR hlen
      cases l with
      | nil =>
        have hn : ((tx []).toList == ([] : List UInt8)) = true := by rw [tx_list]; rfl
        have hc1 := hS.blk.c1
        have hc2 := hS.blk.c2
        go_wp2_with fail
        go_quiet (fail)
        go_wp2
        go_ret2
        exact ⟨⟨_, rfl⟩, by rw [HBe.out]; exact pw_below_drewN hS.bel _⟩
      | cons c t =>
        have hn : ((tx (c :: t)).toList == ([] : List UInt8)) = false := by rw [tx_list]; rfl
        have hc1 := hS.blk.c1
        have hc2 := hS.blk.c2
        go_wp2_with fail
        go_quiet (fail)
        go_wp2
        go_ret2
        exact ⟨⟨_, rfl⟩, by rw [HBe.out]; exact pw_below_drewN hS.bel _⟩
    | false =>
      have hlen := hlen rfl
      have hR1 : compL gk l ps = some r := by have := hR.out; rwa [if_neg (by decide)] at this
      clear hR
      cases gk with
      | zero => exact absurd hR1 (by simp [compL])
      | succ k =>
        cases l with
        | nil =>
          have hrn : r = some ps := by simp [compL] at hR1; exact hR1.symm
          subst hrn
          have hn : ((tx []).toList == ([] : List UInt8)) = true := by rw [tx_list]; rfl
          have hc1 := hS.blk.c1
          have hc2 := hS.blk.c2
          go_wp2_with fail
          go_quiet (fail)
          go_wp2
          go_ret2
          exact ⟨_, rfl, by rw [HBe.out]; exact pw_own_below hS.own (pw_below_drewN (Below.refl _ _) _), by rw [HBe.out]; exact pw_below_drewN hS.bel _, hS.len⟩
        | cons c t =>
          have hn : ((tx (c :: t)).toList == ([] : List UInt8)) = false := by rw [tx_list]; rfl
          have hc2 := hS.blk.c2
          simp only [compL] at hR1
          have HR1 := Lib.hid hR1
          clear hR1
          have hlt : t.length + ps.length + 1 ≤ 1000 := by simp only [List.length_cons] at hlen; omega
          clear hlen
          go_wp2_with fail
          refine (take_any hS).mono ?_
          rintro e w1 ⟨rfl, hS1, k1⟩
          have hS2 : CS w w1 B B t ps false v := hS1
          clear hS hS1 k1 hc0 hc2 hn
          have hh : tkC (c :: t) = c := rfl
          rw [hh]
          clear hh
          by_cases e42 : c = 42
          · have hR2 : (if t.head? = some 42 then compL k t.tail (ps ++ [(2, zs)]) else compL k t (ps ++ [(1, zs)])) = some r := by
              have := HR1.out
              rwa [if_pos e42] at this
            have HR2 := Lib.hid hR2
            subst e42
            clear hR2 HR1
            have q42 : (((42 : UInt8).toNat : Int) == 42) = true := rfl
            have hc0 := hS2.blk.c0
            go_wp2_with fail
            refine (has1 t 42 _).mono ?_
            rintro e w' ⟨rfl, rfl⟩
            obtain ⟨b2, hb2⟩ : ∃ b, (t.head? == some 42) = b := ⟨_, rfl⟩
            rw [hb2]
            have HB2 := Lib.hid hb2
            clear hb2
            go_upto_if 36 with (fail)
            go_cut [6] (fun v6 wc => ∃ (kd : Int) (tl : List UInt8), v6 = .int .i64 kd ∧ CS w wc B B tl ps false v ∧ (kd = 1 ∨ kd = 2) ∧ Aside0 (compL k tl (ps ++ [(kd, zs)]) = some r) ∧ tl.length ≤ t.length)
            case first =>
              cases b2 with
              | false =>
                go_wp2
                go_meet
                case rel => exact ⟨1, t, rfl, hS2, .inl rfl, ⟨by have := HR2.out; rwa [if_neg (fun h => by have := HB2.out; rw [h] at this; exact absurd this (by decide))] at this⟩, Nat.le_refl _⟩
              | true =>
                have hemp : t.isEmpty = false := by
                  have h1 := HB2.out
                  cases t with
                  | nil => exact absurd h1 (by decide)
                  | cons a t => rfl
                have HE := Lib.hid hemp
                clear hemp
                go_wp2_with fail
                refine (take_any hS2).mono ?_
                rintro e w2 ⟨rfl, hS3, k3⟩
                rw [HE.out] at hS3
                clear k3 hS2
                go_wp2
                go_meet
                case rel => exact ⟨2, t.tail, rfl, hS3, .inr rfl, ⟨by have := HR2.out; rwa [if_pos (beq_iff_eq.1 HB2.out)] at this⟩, by simp⟩
            case rest =>
              clear hS2 HR2
              obtain ⟨kd, tl, rfl, hS, hkd, hR2, htl⟩ := hcut
              have hx : ((kd, zs) : Pc).2.length = 256 := zs_len
              have hbk := set_kind kd
              have hc1 := hS.blk.c1
              obtain ⟨x, hxe⟩ : ∃ x : Pc, x = (kd, zs) := ⟨_, rfl⟩
              rw [← hxe] at hbk hR2 hx
              obtain ⟨hi65, hz65, hs65, hb65⟩ := INF.out
              have HX := Lib.hid hx
              have HXE := Lib.hid hxe
              have HI := Lib.hid hi65
              have HZ := Lib.hid hz65
              have HS6 := Lib.hid hs65
              have HB6 := Lib.hid hb65
              clear hx hxe hi65 hz65 hs65 hb65 hkd
              go_wp2_with (first | ((with_reducible refine gate_dst (N := 46) rfl ?_); refine wpList_build65 rfl (.tmp 45) rfl x HX.out rfl ?_) | (at_builtin; refine wpList_append_lies _ rfl (.tmp 43) (.tmp 46) 34 rfl B 53 i65 _ 257 264 Try.underlying34 HI.out HZ.out HS6.out HB6.out (zsz65) (by omega) v ps.length (rowOf ps) rfl (rp_o hS) ⟨wc.heap.size, 0, none⟩ 1 1 (pcs x) rfl (by rw [pcs_len x HX.out]) (rp_n wc x) (pcs_one x) (by omega) (by unfold maxLen; omega) (by omega) (rp_b hS) _ rfl ?_; intro g2 cap w2 hown2 hgr2 _ _; have c1 := (rp_blk hS hgr2).c1; have f1 := (rp_blk hS hgr2).fr 1))
              go_roundg k
              case measure => omega
              case rel => exact ⟨tl, _, false, _, hS.push2 HX.out hown2 hgr2, ⟨hR2.out⟩, fun _ => by simp; omega, by omega⟩
          by_cases e63 : c = 63
          · have hR2 : compL k t (ps ++ [(0, qs 256)]) = some r := by
              have := HR1.out
              rwa [if_neg e42, if_pos e63] at this
            have HR2 := Lib.hid hR2
            subst e63
            clear hR2 HR1 e42
            have q42 : (((63 : UInt8).toNat : Int) == 42) = false := rfl
            have q63 : (((63 : UInt8).toNat : Int) == 63) = true := rfl
            have hS3 : CS w (w1.alloc (.cells Try.zeroCells53 53)) B B t ps false v := hS2.alloc _
            have hP3 : Pb (w1.alloc (.cells Try.zeroCells53 53)) w1.heap.size (0, qs 0) := by
              rw [qs_zero, zero65]
              exact heap_alloc_new w1 _
            have hv3 : v.ownBlock ≠ some w1.heap.size := fun e => by have := own_lt hS2.own _ e; omega
            have hHB : B ≤ w1.heap.size := hS2.lt
            have HS3 := Lib.hid hS3
            have HP3 := Lib.hid hP3
            have HV3 := Lib.hid hv3
            clear hS3 hP3 hv3 hS2
            go_wp2_with fail
            have hS := HS3.out
            have hP := HP3.out
            have hv := HV3.out
            clear HS3 HP3 HV3
            generalize w1.alloc (.cells Try.zeroCells53 53) = W2 at *
            generalize w1.heap.size = H at *
            go_loopw [52, 8] (fun i _ wx => ∃ j : Nat, j ≤ 256 ∧ i = .int .i64 (j : Int) ∧ CS w wx B B t ps false v ∧ Pb wx H (0, qs j)) (fun i _ _ => (256 - intOf i).toNat)
            case atStart => exact ⟨0, by omega, rfl, hS, hP⟩
            case round =>
              clear hS hP
              obtain ⟨j, hj, rfl, hS, hP⟩ := hrel
              by_cases hj2 : j < 256
              · have hcj := hP.cell (qs_len j) j hj2
                have hfj := hP.fr (1 + j)
                have hP2 := hP.set j ((j : Int) != 47)
                rw [qs_succI j hj2] at hP2
                have hS2 := hS.far hP hHB hv (1 + j) (.bool ((j : Int) != 47))
                have HP2 := Lib.hid hP2
                have HS2 := Lib.hid hS2
                clear hP2 hS2 hP hS
                generalize (qs j).getD j false = bb at *
                go_wp2
                go_roundw
                case rel => exact ⟨j + 1, by omega, by go_num, HS2.out, HP2.out⟩
                case measure => simp [intOf]; omega
              · obtain rfl : j = 256 := by omega
                obtain ⟨W1, rfl⟩ : ∃ W1 : World, W1 = wr := ⟨_, rfl⟩
                go_wp2_with fail
                have hr := hP.range
                have hx : ((0, qs 256) : Pc).2.length = 256 := qs_len 256
                obtain ⟨x, hxe⟩ : ∃ x : Pc, x = (0, qs 256) := ⟨_, rfl⟩
                rw [← hxe] at hr hx HR2
                clear hxe hP
                obtain ⟨hi65, hz65, hs65, hb65⟩ := INF.out
                have hlenA : (ps.length + 1) * 264 ≤ 140737488355328 := by omega
                refine start_ (n := 11) (S := fun w' => w'.cell? ⟨B, 1, none⟩ = some v ∧ w'.rangeAt H 0 (pcs x)) (ds := [7, 10]) #[false, false, false, false, false, false, false, false, false, false, false] (by kernel_rfl) rfl rfl ⟨(reg_c0 hS), (reg_r0 hr)⟩ (fun hHeld => ?_)
                refine pure_ (i := 0) (N := some 61) (v := ?_) (a' := ?_) #[true, false, false, false, false, false, false, false, false, false, false] rfl rfl (by kernel_rfl) (fun _ _ _ h => h) (Or.inl ⟨by rfl, ?_⟩) ?_ ?_
                rotate_left
                · intro w'
                  go_simp
                  with_reducible rfl
                rotate_left
                · simp only [Act.put, List.setIfInBounds_toArray, List.set_cons_zero, List.set_cons_succ, i64_w, i32_w]
                  rfl
                refine pure_ (i := 1) (N := some 62) (v := ?_) (a' := ?_) #[true, true, false, false, false, false, false, false, false, false, false] rfl rfl (by kernel_rfl) (fun _ _ _ h => h) (Or.inl ⟨by rfl, ?_⟩) ?_ ?_
                rotate_left
                · intro w'
                  go_simp
                  with_reducible rfl
                rotate_left
                · simp only [Act.put, List.setIfInBounds_toArray, List.set_cons_zero, List.set_cons_succ, i64_w, i32_w]
                  rfl
                refine pure_ (i := 2) (N := some 63) (v := ?_) (a' := ?_) #[true, true, true, false, false, false, false, false, false, false, false] rfl rfl (by kernel_rfl) (fun _ _ _ h => h) (Or.inl ⟨by rfl, ?_⟩) ?_ ?_
                rotate_left
                · intro w'
                  go_simp
                  with_reducible rfl
                rotate_left
                · simp only [Act.put, List.setIfInBounds_toArray, List.set_cons_zero, List.set_cons_succ, i64_w, i32_w]
                  rfl
                refine pure_ (i := 3) (N := some 64) (v := ?_) (a' := ?_) #[true, true, true, true, false, false, false, false, false, false, false] rfl rfl (by kernel_rfl) (fun _ _ _ h => h) (Or.inl ⟨by rfl, ?_⟩) ?_ ?_
                rotate_left
                · intro w'
                  go_simp
                  with_reducible rfl
                rotate_left
                · simp only [Act.put, List.setIfInBounds_toArray, List.set_cons_zero, List.set_cons_succ, i64_w, i32_w]
                  rfl
                refine take_ (i := 4) (N := some 65) (v := ?_) (a' := ?_) #[true, true, true, true, true, false, false, false, false, false, false] rfl rfl (by kernel_rfl) (fun _ _ _ h => h) (Or.inl ⟨by rfl, ?_⟩) hHeld ?_ ?_
                rotate_left
                · rintro w' ⟨s0, s1⟩
                  go_simp
                  with_reducible rfl
                rotate_left
                · simp only [Act.put, List.setIfInBounds_toArray, List.set_cons_zero, List.set_cons_succ, i64_w, i32_w]
                  rfl
                refine take_ (i := 5) (N := some 66) (v := .agg (pcs x).toArray) (a' := ?_) #[true, true, true, true, true, true, false, false, false, false, false] rfl rfl (by kernel_rfl) (fun _ _ _ h => h) (yieldsIf_load_mid (by rfl) 53 (.tmp 7) rfl H 0 rfl (pcs x) _ (fun w' hs => hs.2) Try.underlying53 rfl (by rw [pcs_len x hx]; exact size65)) hHeld ?_ ?_
                rotate_left
                · simp only [Act.put, List.setIfInBounds_toArray, List.set_cons_zero, List.set_cons_succ, i64_w, i32_w]
                  rfl
                refine one_ (i := 6) (N := some 67) #[true, true, true, true, true, true, true, false, false, false, false] rfl rfl (by kernel_rfl) (by decide) (fun K hK => ?_)
                refine value_ (w1 := W1.drew.alloc (.cells (pcs x).toArray 53)) (v := .slice (some ⟨W1.heap.size, 0, none⟩) 1 1) (by rfl) rfl ?_ ?_
                · exact exec_one (.tmp 66) rfl x hx rfl W1.drew
                refine hK.out _ _ ⟨(reg_c hS), (reg_r hr)⟩ (fun hHeld => ?_)
                clear hK K
                refine norm_ (a' := ?_) ?_ ?_
                rotate_left
                · show Act.put _ (some 67) _ = _
                  simp only [Act.put, List.setIfInBounds_toArray, List.set_cons_zero, List.set_cons_succ, i64_w, i32_w]
                  rfl
                refine last_ (i := 7) (N := some 68) #[true, true, true, true, true, true, true, true, false, false, false] rfl rfl (by kernel_rfl) (by decide) (fun K hK => ?_)
                refine step_append_lies _ rfl (.tmp 65) (.tmp 67) 34 rfl B 53 i65 _ 257 264 Try.underlying34 hi65 hz65 hs65 hb65 (zsz65) (by omega) v ps.length (rowOf ps) rfl (reg_o hS) ⟨W1.heap.size, 0, none⟩ 1 1 (pcs x) rfl (by rw [pcs_len x hx]) (reg_n W1 x) (pcs_one x) (by omega) (by unfold maxLen; omega) hlenA (reg_b hS) _ rfl ?_
                intro g2 cap w2 hown2 hgr2 hat2 hlt2
                have c1 := reg_c2 hS hgr2
                have f1 := reg_f2 hS hgr2
                refine hK.out _ _ ?_
                clear hK K
                refine norm_ (a' := ?_) ?_ ?_
                rotate_left
                · show Act.put _ (some 68) _ = _
                  simp only [Act.put, List.setIfInBounds_toArray, List.set_cons_zero, List.set_cons_succ, i64_w, i32_w]
                  rfl
                refine pure_ (i := 8) (N := some 69) (v := ?_) (a' := ?_) #[true, true, true, true, true, true, true, true, true, false, false] rfl rfl (by kernel_rfl) (fun _ _ _ h => h) (Or.inl ⟨by rfl, ?_⟩) ?_ ?_
                rotate_left
                · intro w'
                  go_simp
                  with_reducible rfl
                rotate_left
                · simp only [Act.put, List.setIfInBounds_toArray, List.set_cons_zero, List.set_cons_succ, i64_w, i32_w]
                  rfl
                refine pure_ (i := 9) (N := some 70) (v := ?_) (a' := ?_) #[true, true, true, true, true, true, true, true, true, true, false] rfl rfl (by kernel_rfl) (fun _ _ _ h => h) (Or.inl ⟨by rfl, ?_⟩) ?_ ?_
                rotate_left
                · intro w'
                  go_simp
                  with_reducible rfl
                rotate_left
                · simp only [Act.put, List.setIfInBounds_toArray, List.set_cons_zero, List.set_cons_succ, i64_w, i32_w]
                  rfl
                refine last_ (i := 10) (N := none) #[true, true, true, true, true, true, true, true, true, true, true] rfl rfl (by kernel_rfl) (by decide) (fun K hK => ?_)
                refine skip_ (w1 := w2.setCell ⟨B, 1, none⟩ (.slice (some ⟨g2, 0, none⟩) (ps.length + 1) cap)) (by rfl) rfl ?_ ?_
                · go_simp
                refine hK.out _ _ ?_
                clear hK K
                refine done_ (by kernel_rfl) ?_
                go_wp2
                go_roundg k
                case measure => omega
                case rel => exact ⟨t, _, false, _, hS.push hx hown2 hgr2, ⟨HR2.out⟩, fun _ => by simp; omega, by omega⟩
          by_cases e91 : c = 91
          · have hR2 : setK (compL k) t ps (setL (t.length + 2) true (setStart t) zs) = some r := by
              have := HR1.out
              rwa [if_neg e42, if_neg e63, if_pos e91] at this
            have HR2 := Lib.hid hR2
            subst e91
            clear hR2 HR1 e42 e63
            have q42 : (((91 : UInt8).toNat : Int) == 42) = false := rfl
            have q63 : (((91 : UInt8).toNat : Int) == 63) = false := rfl
            have q91 : (((91 : UInt8).toNat : Int) == 91) = true := rfl
            have hr2 : ∃ r2, setL (t.length + 2) true (setStart t) zs = some r2 := by
              have := HR2.out
              cases hq : setL (t.length + 2) true (setStart t) zs with
              | none => rw [hq] at this; cases this
              | some r2 => exact ⟨r2, rfl⟩
            obtain ⟨r2, hr2⟩ := hr2
            have HQ := Lib.hid hr2
            clear hr2
            go_wp2_with fail
            refine (set_any _ r2 HQ.out hS2 (by omega)).mono ?_
            rintro e w2 ⟨rfl, hpost⟩
            have HP := Lib.hid hpost
            clear hpost hS2
            go_wp2
            go_roundg k
            case measure => omega
            case rel =>
              have h1 := HR2.out
              have h2 := HP.out
              rw [HQ.out] at h1
              cases r2 with
              | none =>
                obtain ⟨l', v', h3⟩ := h2
                exact ⟨l', ps, true, v', h3, ⟨by rw [if_pos rfl]; exact (Option.some.inj h1).symm⟩, (fun h => by cases h), by omega⟩
              | some y =>
                obtain ⟨l2, f⟩ := y
                obtain ⟨v', h3⟩ := h2
                have hl2 := setL_len _ _ _ _ _ _ HQ.out
                have hl3 := setStart_len t
                exact ⟨l2.tail, _, false, v', h3, ⟨by rw [if_neg (by decide)]; exact h1⟩, fun _ => by simp; omega, by omega⟩
          by_cases e92 : c = 92
          · have hR2 : escK (compL k) ps t = some r := by
              have := HR1.out
              rwa [if_neg e42, if_neg e63, if_neg e91, if_pos e92] at this
            have HR2 := Lib.hid hR2
            subst e92
            clear hR2 HR1 e42 e63 e91
            have q42 : (((92 : UInt8).toNat : Int) == 42) = false := rfl
            have q63 : (((92 : UInt8).toNat : Int) == 63) = false := rfl
            have q91 : (((92 : UInt8).toNat : Int) == 91) = false := rfl
            have q92 : (((92 : UInt8).toNat : Int) == 92) = true := rfl
            go_wp2_with fail
            refine (take_any hS2).mono ?_
            rintro e w2 ⟨rfl, hS3, k3⟩
            rw [Bool.false_or] at hS3
            clear hS2 k3
            go_wp2_with fail
            refine (single_any (tkC t) hS3 (by omega)).mono ?_
            rintro e w3 ⟨rfl, v3, hS4⟩
            clear hS3
            go_wp2
            go_roundg k
            case measure => omega
            case rel =>
              have h1 := HR2.out
              cases t with
              | nil => exact ⟨_, _, true, v3, hS4, ⟨by rw [if_pos rfl]; exact (Option.some.inj h1).symm⟩, (fun h => by cases h), by omega⟩
              | cons d t' => exact ⟨t', _, false, v3, hS4, ⟨by rw [if_neg (by decide)]; exact h1⟩, fun _ => by simp only [List.length_cons, List.length_append, List.length_nil] at hlt ⊢; omega, by omega⟩
          have q42 : ((c.toNat : Int) == 42) = false := (u8_eq c 42 (by omega)).trans (beq_eq_false_iff_ne.2 e42)
          have q63 : ((c.toNat : Int) == 63) = false := (u8_eq c 63 (by omega)).trans (beq_eq_false_iff_ne.2 e63)
          have q91 : ((c.toNat : Int) == 91) = false := (u8_eq c 91 (by omega)).trans (beq_eq_false_iff_ne.2 e91)
          have q92 : ((c.toNat : Int) == 92) = false := (u8_eq c 92 (by omega)).trans (beq_eq_false_iff_ne.2 e92)
          have hR2 : compL k t (ps ++ [(0, zs.set c.toNat true)]) = some r := by
            have := HR1.out
            rwa [if_neg e42, if_neg e63, if_neg e91, if_neg e92] at this
          have HR2 := Lib.hid hR2
          clear hR2 e42 e63 e91 e92
          go_wp2_with fail
          refine (single_any c hS2 (by omega)).mono ?_
          rintro e w2 ⟨rfl, v2, hS3⟩
          go_wp2
          go_roundg k
          case measure => omega
          case rel => exact ⟨t, _, false, v2, hS3, ⟨HR2.out⟩, fun _ => by simp; omega, by omega⟩
end Go.Proofs.Ytkgldphpkglcmaa.Gl
