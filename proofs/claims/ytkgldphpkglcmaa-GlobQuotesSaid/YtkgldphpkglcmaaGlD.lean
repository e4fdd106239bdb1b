/- glob's compiler: what is appended to the pieces; single. -/
import Derived.Test.YtkgldphpkglcmaaGlC
import Derived.Deep.MidRow
import Derived.Great.BuildSlice
namespace Go.Proofs.Ytkgldphpkglcmaa.Gl
open Go.RowKit Go.Proofs.YtkgldphpkglcmaaW.PrintWords Go.Proofs.YtkgldphpkglcmaaW.PrintLast Go.Proofs.YtkgldphpkglcmaaW.PrintMore
set_option linter.unusedSimpArgs false
/-- no byte. -/
def zs : List Bool := List.replicate 256 false
theorem zs_len : zs.length = 256 := List.length_replicate
theorem zs_at (i : Nat) (h : i < 256) : zs[i]? = some false := by unfold zs; rw [List.getElem?_replicate, if_pos h]
theorem zero65 : Try.zeroCells53 = (pcs (0, zs)).toArray := by kernel_rfl
theorem info65 : (Try.prog.info? 53).map (fun i => (i.zero, i.size, i.bytes)) = some (some (.agg (pcs (0, zs)).toArray), 257, 264) := by kernel_rfl
theorem size65 : (Try.prog.info? 53).map (·.size) = some 257 := by kernel_rfl
theorem pcs_len (x : Pc) (h : x.2.length = 256) : (pcs x).length = 257 := by simp [pcs, h]
theorem zsz65 : (Value.agg (pcs (0, zs)).toArray).cells.size = 257 := by show (pcs (0, zs)).toArray.size = 257; rw [List.size_toArray]; exact pcs_len _ zs_len
theorem pcs_one (x : Pc) : ∀ u ∈ pcs x, u.oneCell' = true := by
  intro u hu
  simp only [pcs, List.mem_cons, List.mem_map] at hu
  rcases hu with rfl | ⟨c, _, rfl⟩ <;> rfl
theorem pcs_set (k : Int) (s : List Bool) (i : Nat) (c : Bool) : (pcs (k, s)).toArray.setIfInBounds (1 + i) (.bool c) = (pcs (k, s.set i c)).toArray := by
  rw [Nat.add_comm]
  simp [pcs, List.map_set]
theorem row_snoc (ps : List Pc) (x : Pc) : rowOf (ps ++ [x]) = rowOf ps ++ pcs x := by simp [rowOf]
theorem fill_one (z cs : Array Value) (h : z.size = cs.size) : cs.zipIdx.foldl (fun a (c, j) => a.setIfInBounds (0 + j) c) z = cs := by
  have key : ∀ (l : List Value) (pre : List Value) (rest : List Value), rest.length = l.length →
      (l.zipIdx pre.length).foldl (fun (a : Array Value) (x : Value × Nat) => a.setIfInBounds (0 + x.2) x.1) (pre ++ rest).toArray = (pre ++ l).toArray := by
    intro l
    induction l with
    | nil => intro pre rest hr; simp_all
    | cons c l ih =>
      intro pre rest hr
      obtain ⟨r, rest, rfl⟩ : ∃ r t, rest = r :: t := by cases rest with | nil => simp at hr | cons r t => exact ⟨r, t, rfl⟩
      have h2 := ih (pre ++ [c]) rest (by simpa using hr)
      simp only [List.zipIdx_cons, List.foldl_cons]
      have e : (pre ++ r :: rest).toArray.setIfInBounds (0 + pre.length) c = ((pre ++ [c]) ++ rest).toArray := by simp
      rw [e]
      simp only [List.length_append, List.length_singleton, List.append_assoc, List.singleton_append] at h2 ⊢
      exact h2
  have h3 := key cs.toList [] z.toList (by simpa using h)
  simp only [List.length_nil, List.nil_append, Array.toArray_toList] at h3
  rw [← Array.foldl_toList, Array.toList_zipIdx]
  exact h3
theorem fill_at (cs : Array Value) (hs : cs.size = 257) (z : Array Value) (hz : z.size = 257) : Instr.fill (fun i => some (i * 257, 257)) z [(0, .agg cs)] = some cs := by
  have hf := fill_one z cs (by omega)
  simp only [Instr.fill, Value.cells, Nat.zero_mul]
  rw [if_neg (by simp [hs, hz])]
  exact congrArg some hf
theorem run_one (x : Pc) (hx : x.2.length = 256) (W : World) : (Instr.buildSlice 34 1 #[(0, .agg (pcs x).toArray)]).run Try.prog W = .ok (.slice (some ⟨W.heap.size, 0, none⟩) 1 1) (W.alloc (.cells (pcs x).toArray 53)) := by
  obtain ⟨i0, hi, hzz⟩ := Option.map_eq_some_iff.1 info65
  simp only [Prod.mk.injEq] at hzz
  obtain ⟨hz0, hz1, hz2⟩ := hzz
  refine run_buildSlice W 34 53 1 _ _ i0 _ Try.underlying34 hi hz0 (by omega) (by omega) ?_
  rw [hz1]
  exact fill_at _ (by rw [List.size_toArray]; exact pcs_len x hx) _ (by simp)
theorem exec_one {a : Act} {o : Oper} (y : Operand) (ho : o.op = .buildSlice 34 1 #[(0, y)]) (x : Pc) (hx : x.2.length = 256) (hy : a.eval y = .agg (pcs x).toArray) (W : World) :
    (execOp a.eval o).run Try.prog W = .ok (.value (.slice (some ⟨W.heap.size, 0, none⟩) 1 1)) (W.alloc (.cells (pcs x).toArray 53)) := by
  unfold execOp
  simp only [ho, Sem.run_bind, List.map_toArray, List.map_cons, List.map_nil, hy, run_one x hx W, Result.andThen_ok, Sem.run_pure]
section
variable {w0 W1 w2 : World} {B g H : Nat} {l : List UInt8} {ps : List Pc} {b : Bool} {v : Value} {x : Pc} {o : Obj}
theorem CS.glt (hS : CS w0 W1 B g l ps b v) : g < W1.heap.size := block_lt_of_cell hS.blk.c0
theorem reg_c0 (hS : CS w0 W1 B g l ps b v) : W1.drew.cell? ⟨g, 1, none⟩ = some v := hS.blk.c1
theorem reg_r0 (hr : W1.rangeAt H 0 (pcs x)) : W1.drew.rangeAt H 0 (pcs x) := (World.rangeAt_drew ..).2 hr
theorem reg_c (hS : CS w0 W1 B g l ps b v) : (W1.drew.alloc o).cell? ⟨g, 1, none⟩ = some v := (World.cell?_alloc_lt W1.drew o _ hS.glt).trans hS.blk.c1
theorem reg_r (hr : W1.rangeAt H 0 (pcs x)) : (W1.drew.alloc o).rangeAt H 0 (pcs x) := World.rangeAt_alloc (reg_r0 hr) o
theorem reg_o (hS : CS w0 W1 B g l ps b v) : (W1.drew.alloc o).ownsRow B 53 257 v ps.length (rowOf ps) := (World.ownsRow.drew hS.own).alloc o
theorem reg_n (W1 : World) (x : Pc) : ∀ j u, (pcs x)[j]? = some u → (W1.drew.alloc (.cells (pcs x).toArray 53)).cell? ((⟨W1.heap.size, 0, none⟩ : Addr).add j) = some u :=
  fun j u hu => World.news_of_block (cs := (pcs x).toArray) (t := 53) (fr := (0, 0)) (heap_alloc_new W1.drew _) j u hu
theorem reg_b (hS : CS w0 W1 B g l ps b v) : B ≤ (W1.drew.alloc o).heap.size := by
  have h1 := hS.glt
  have h2 := hS.hg
  have : (W1.drew.alloc o).heap.size = W1.heap.size + 1 := by simp
  omega
theorem reg_blk (hS : CS w0 W1 B g l ps b v) (hgr : (W1.drew.alloc o).grownBy w2 v.ownBlock) : Cm w2 g l v b := by
  have h1 : w2.heap[g]? = (W1.drew.alloc o).heap[g]? := hgr.block g (by have := hS.glt; simp; omega) (fun e => hS.apart e.symm)
  have h2 : (W1.drew.alloc o).heap[g]? = W1.heap[g]? := Below.heap_alloc W1.drew o g hS.glt
  exact (h1.trans h2).trans hS.blk
theorem reg_c2 (hS : CS w0 W1 B g l ps b v) (hgr : (W1.drew.alloc o).grownBy w2 v.ownBlock) : w2.cell? ⟨g, 1, none⟩ = some v := (reg_blk hS hgr).c1
theorem reg_f2 (hS : CS w0 W1 B g l ps b v) (hgr : (W1.drew.alloc o).grownBy w2 v.ownBlock) : w2.frozen? ⟨g, 1, none⟩ = false := (reg_blk hS hgr).fr 1
theorem CS.push (hS : CS w0 W1 B g l ps b v) (hx : x.2.length = 256) {v2 : Value} (hown : w2.ownsRow B 53 257 v2 (ps.length + 1) (rowOf ps ++ pcs x)) (hgr : (W1.drew.alloc o).grownBy w2 v.ownBlock) :
    CS w0 (w2.setCell ⟨g, 1, none⟩ v2) B g l (ps ++ [x]) b v2 := by
  have hb := reg_blk hS hgr
  have hne : v2.ownBlock ≠ some g := by
    intro e
    obtain ⟨cells, hc⟩ := own_typed hown g e
    unfold Cm at hb
    rw [hb] at hc
    injection hc with hc
    injection hc with _ ht
    exact absurd ht (by decide)
  refine ⟨hb.s1 v2, hS.hg, ?_, ?_, ?_⟩
  · rw [row_snoc, List.length_append, List.length_singleton]
    exact own_move hown (fun k hk => Below.heap_setCell w2 _ _ k (by rintro rfl; exact hne hk))
  · exact ((((hS.bel.drew).alloc (by have := hS.glt; have := hS.hg; show B ≤ W1.heap.size; omega) o).grown hgr (reg_b hS) (own_base hS.own))).setCell hS.hg _
  · intro y hy
    rcases List.mem_append.1 hy with hy | hy
    · exact hS.len y hy
    · rw [List.mem_singleton.1 hy]; exact hx
end
set_option maxRecDepth 100000 in
set_option maxHeartbeats 400000 in
theorem single_any {w0 w : World} {B g : Nat} {l : List UInt8} {ps : List Pc} {b : Bool} {v : Value} (c : UInt8) (h : CS w0 w B g l ps b v) (hlenA : (ps.length + 1) * 264 ≤ 140737488355328) :
    Calls Try.prog 24 #[.pointer (some ⟨g, 0, none⟩), .int .u8 (c.toNat : Int)] w fun e w' => e = .returned (.tuple #[]) ∧ ∃ v', CS w0 w' B g l (ps ++ [(0, zs.set c.toNat true)]) b v' := by
  have hz : Try.zeroCells53[1 + c.toNat]? = some (.bool false) := by
    rw [zero65, Nat.add_comm]
    have := c.toNat_lt
    show (pcs (0, zs)).toArray[c.toNat + 1]? = _
    simp only [pcs, List.getElem?_toArray, List.getElem?_cons_succ, List.getElem?_map]
    rw [zs_at _ this]
    rfl
  have hb : (c.toNat : Int) < 256 := by have := c.toNat_lt; omega
  have hset : Try.zeroCells53.setIfInBounds (1 + c.toNat) (.bool true) = (pcs (0, zs.set c.toNat true)).toArray := by rw [zero65, pcs_set]
  have hx : ((0, zs.set c.toNat true) : Pc).2.length = 256 := by rw [List.length_set]; exact zs_len
  have hB : B ≤ w.heap.size := Nat.le_trans h.hg (Nat.le_of_lt h.glt)
  obtain ⟨x, hxe⟩ : ∃ x : Pc, x = (0, zs.set c.toNat true) := ⟨_, rfl⟩
  rw [← hxe] at hset hx
  have HX := Lib.hid hxe
  rw [HX.out.symm]
  have Hx := Lib.hid hx
  clear hxe hx
  obtain ⟨i65, hi65, hzz⟩ := Option.map_eq_some_iff.1 info65
  simp only [Prod.mk.injEq] at hzz
  obtain ⟨hz65, hs65, hb65⟩ := hzz
  have INF := Lib.hid (And.intro hi65 (And.intro hz65 (And.intro hs65 hb65)))
  clear hi65 hz65 hs65 hb65
  obtain ⟨W1, hW1⟩ : ∃ W1, W1 = w.alloc (.cells (pcs x).toArray 53) := ⟨_, rfl⟩
  have hS : CS w0 W1 B g l ps b v := by
    subst hW1
    have hg := block_lt_of_cell h.blk.c0
    exact ⟨(Below.heap_alloc w _ g hg).trans h.blk, h.hg, h.own.alloc _, h.bel.alloc hB _, h.len⟩
  have hr : W1.rangeAt w.heap.size 0 (pcs x) := by
    subst hW1
    intro j u hu
    have := World.news_of_block (cs := (pcs x).toArray) (t := 53) (fr := (0, 0)) (heap_alloc_new w (.cells (pcs x).toArray 53)) j u hu
    rwa [Addr.add_mid] at this
  have HW := Lib.hid hW1
  have HS := Lib.hid hS
  have HR := Lib.hid hr
  clear hW1 hS hr
  go_enter Try.func24, Try.ntmps24
  go_wp2_with fail
  rw [← HW.out]
  clear hset hz hb h
  have hS := HS.out
  have hr := HR.out
  have hx := Hx.out
  obtain ⟨hi65, hz65, hs65, hb65⟩ := INF.out
  generalize w.heap.size = H at *
  refine start_ (n := 11) (S := fun w' => w'.cell? ⟨g, 1, none⟩ = some v ∧ w'.rangeAt H 0 (pcs x)) (ds := [7, 10]) #[false, false, false, false, false, false, false, false, false, false, false] (by kernel_rfl) rfl rfl ⟨(reg_c0 hS), (reg_r0 hr)⟩ (fun hHeld => ?_)
  refine pure_ (i := 0) (N := some 8) (v := ?_) (a' := ?_) #[true, false, false, false, false, false, false, false, false, false, false] rfl rfl (by kernel_rfl) (fun _ _ _ h => h) (Or.inl ⟨by rfl, ?_⟩) ?_ ?_
  rotate_left
  · intro w'
    go_simp
    with_reducible rfl
  rotate_left
  · simp only [Act.put, List.setIfInBounds_toArray, List.set_cons_zero, List.set_cons_succ, i64_w, i32_w]
    rfl
  refine pure_ (i := 1) (N := some 9) (v := ?_) (a' := ?_) #[true, true, false, false, false, false, false, false, false, false, false] rfl rfl (by kernel_rfl) (fun _ _ _ h => h) (Or.inl ⟨by rfl, ?_⟩) ?_ ?_
  rotate_left
  · intro w'
    go_simp
    with_reducible rfl
  rotate_left
  · simp only [Act.put, List.setIfInBounds_toArray, List.set_cons_zero, List.set_cons_succ, i64_w, i32_w]
    rfl
  refine pure_ (i := 2) (N := some 10) (v := ?_) (a' := ?_) #[true, true, true, false, false, false, false, false, false, false, false] rfl rfl (by kernel_rfl) (fun _ _ _ h => h) (Or.inl ⟨by rfl, ?_⟩) ?_ ?_
  rotate_left
  · intro w'
    go_simp
    with_reducible rfl
  rotate_left
  · simp only [Act.put, List.setIfInBounds_toArray, List.set_cons_zero, List.set_cons_succ, i64_w, i32_w]
    rfl
  refine pure_ (i := 3) (N := some 11) (v := ?_) (a' := ?_) #[true, true, true, true, false, false, false, false, false, false, false] rfl rfl (by kernel_rfl) (fun _ _ _ h => h) (Or.inl ⟨by rfl, ?_⟩) ?_ ?_
  rotate_left
  · intro w'
    go_simp
    with_reducible rfl
  rotate_left
  · simp only [Act.put, List.setIfInBounds_toArray, List.set_cons_zero, List.set_cons_succ, i64_w, i32_w]
    rfl
  refine take_ (i := 4) (N := some 12) (v := ?_) (a' := ?_) #[true, true, true, true, true, false, false, false, false, false, false] rfl rfl (by kernel_rfl) (fun _ _ _ h => h) (Or.inl ⟨by rfl, ?_⟩) hHeld ?_ ?_
  rotate_left
  · rintro w' ⟨s0, s1⟩
    go_simp
    with_reducible rfl
  rotate_left
  · simp only [Act.put, List.setIfInBounds_toArray, List.set_cons_zero, List.set_cons_succ, i64_w, i32_w]
    rfl
  refine take_ (i := 5) (N := some 13) (v := .agg (pcs x).toArray) (a' := ?_) #[true, true, true, true, true, true, false, false, false, false, false] rfl rfl (by kernel_rfl) (fun _ _ _ h => h) (yieldsIf_load_mid (by rfl) 53 (.tmp 4) rfl H 0 rfl (pcs x) _ (fun w' hs => hs.2) Try.underlying53 rfl (by rw [pcs_len x hx]; exact size65)) hHeld ?_ ?_
  rotate_left
  · simp only [Act.put, List.setIfInBounds_toArray, List.set_cons_zero, List.set_cons_succ, i64_w, i32_w]
    rfl
  refine one_ (i := 6) (N := some 14) #[true, true, true, true, true, true, true, false, false, false, false] rfl rfl (by kernel_rfl) (by decide) (fun K hK => ?_)
  refine value_ (w1 := W1.drew.alloc (.cells (pcs x).toArray 53)) (v := .slice (some ⟨W1.heap.size, 0, none⟩) 1 1) (by rfl) rfl ?_ ?_
  · exact exec_one (.tmp 13) rfl x hx rfl W1.drew
  refine hK.out _ _ ⟨(reg_c hS), (reg_r hr)⟩ (fun hHeld => ?_)
  clear hK K
  refine norm_ (a' := ?_) ?_ ?_
  rotate_left
  · show Act.put _ (some 14) _ = _
    simp only [Act.put, List.setIfInBounds_toArray, List.set_cons_zero, List.set_cons_succ, i64_w, i32_w]
    rfl
  refine last_ (i := 7) (N := some 15) #[true, true, true, true, true, true, true, true, false, false, false] rfl rfl (by kernel_rfl) (by decide) (fun K hK => ?_)
  refine step_append_lies _ rfl (.tmp 12) (.tmp 14) 34 rfl B 53 i65 _ 257 264 Try.underlying34 hi65 hz65 hs65 hb65 (zsz65) (by omega) v ps.length (rowOf ps) rfl (reg_o hS) ⟨W1.heap.size, 0, none⟩ 1 1 (pcs x) rfl (by rw [pcs_len x hx]) (reg_n W1 x) (pcs_one x) (by omega) (by unfold maxLen; omega) hlenA (reg_b hS) _ rfl ?_
  intro g2 cap w2 hown2 hgr2 hat2 hlt2
  have c1 := reg_c2 hS hgr2
  have f1 := reg_f2 hS hgr2
  refine hK.out _ _ ?_
  clear hK K
  refine norm_ (a' := ?_) ?_ ?_
  rotate_left
  · show Act.put _ (some 15) _ = _
    simp only [Act.put, List.setIfInBounds_toArray, List.set_cons_zero, List.set_cons_succ, i64_w, i32_w]
    rfl
  refine pure_ (i := 8) (N := some 16) (v := ?_) (a' := ?_) #[true, true, true, true, true, true, true, true, true, false, false] rfl rfl (by kernel_rfl) (fun _ _ _ h => h) (Or.inl ⟨by rfl, ?_⟩) ?_ ?_
  rotate_left
  · intro w'
    go_simp
    with_reducible rfl
  rotate_left
  · simp only [Act.put, List.setIfInBounds_toArray, List.set_cons_zero, List.set_cons_succ, i64_w, i32_w]
    rfl
  refine pure_ (i := 9) (N := some 17) (v := ?_) (a' := ?_) #[true, true, true, true, true, true, true, true, true, true, false] rfl rfl (by kernel_rfl) (fun _ _ _ h => h) (Or.inl ⟨by rfl, ?_⟩) ?_ ?_
  rotate_left
  · intro w'
    go_simp
    with_reducible rfl
  rotate_left
  · simp only [Act.put, List.setIfInBounds_toArray, List.set_cons_zero, List.set_cons_succ, i64_w, i32_w]
    rfl
  refine last_ (i := 10) (N := none) #[true, true, true, true, true, true, true, true, true, true, true] rfl rfl (by kernel_rfl) (by decide) (fun K hK => ?_)
  refine skip_ (w1 := w2.setCell ⟨g, 1, none⟩ (.slice (some ⟨g2, 0, none⟩) (ps.length + 1) cap)) (by rfl) rfl ?_ ?_
  · go_simp
  refine hK.out _ _ ?_
  clear hK K
  refine done_ (by kernel_rfl) ?_
  go_wp2
  go_end0
  exact ⟨rfl, _, hS.push hx hown2 hgr2⟩
end Go.Proofs.Ytkgldphpkglcmaa.Gl
