/- the reference's First. -/
import Derived.Test.YtkgldphpkglcmaaGlP
import Derived.Laws.ResultCell
namespace Go.Proofs.Ytkgldphpkglcmaa.Gl
open Go.RowKit Go.Proofs.YtkgldphpkglcmaaW.PrintWords Go.Proofs.YtkgldphpkglcmaaW.PrintLast Go.Proofs.YtkgldphpkglcmaaW.PrintMore
set_option linter.unusedSimpArgs false
set_option linter.unusedVariables false
def bcs (p : UInt8 × UInt8) : List Value := [.int .u8 (p.1.toNat : Int), .int .u8 (p.2.toNat : Int)]
def rowB (ps : List (UInt8 × UInt8)) : List Value := (ps.map bcs).flatten
theorem rowB_snoc (ps : List (UInt8 × UInt8)) (x : UInt8 × UInt8) : rowB (ps ++ [x]) = rowB ps ++ bcs x := by simp [rowB]
theorem bcs_one (x : UInt8 × UInt8) : ∀ u ∈ bcs x, u.oneCell' = true := by intro u hu; simp [bcs] at hu; rcases hu with rfl | rfl <;> rfl
theorem info69 : (Try.prog.info? 57).map (fun i => (i.zero, i.size, i.bytes)) = some (some (.agg #[.int .u8 0, .int .u8 0]), 2, 2) := by kernel_rfl
/-- what First leaves: the piece's parts lie in their own block. -/
def FirstPost (w w' : World) (e : Ending) (s : ByteArray) : Option (RP × List UInt8) → Prop
  | none => e = .returned (.tuple #[.agg #[.int .i64 0, .slice none 0 0, .bool false], .int .i64 (-1)]) ∧ Below w.heap.size w w'
  | some (x, rest) => ∃ (v : Value) (n2 : Nat), e = .returned (.tuple #[.agg #[.int .i64 x.1, v, .bool x.2.2], .int .i64 (n2 : Int)]) ∧ Pos s n2 rest ∧ w'.ownsRow w.heap.size 57 2 v x.2.1.length (rowB x.2.1) ∧ Below w.heap.size w w'
def fst91 (t : List UInt8) : Option (Option (List UInt8 × List (UInt8 × UInt8))) → Option (RP × List UInt8)
  | some (some (l2, ps)) => some ((0, ps, setNot t), l2.tail)
  | _ => none
def fst92 : List UInt8 → Option (RP × List UInt8)
  | [] => none
  | d :: t' => some ((0, [(d, d)], false), t')
def fst42 (t : List UInt8) : Option (RP × List UInt8) := if t.head? = some 42 then some ((2, [], false), t.tail) else some ((1, [], false), t)
theorem fst_42 (t : List UInt8) : fst (42 :: t) = fst42 t := by simp only [fst]; exact if_pos trivial
theorem fst_63 (t : List UInt8) : fst (63 :: t) = some ((0, [], true), t) := by simp only [fst]; rw [if_neg (by decide)]; exact if_pos trivial
theorem fst_92 (t : List UInt8) : fst (92 :: t) = fst92 t := by
  simp only [fst]
  rw [if_neg (by decide), if_neg (by decide)]
  refine (if_pos trivial).trans ?_
  cases t <;> rfl
theorem fst_91 (t : List UInt8) : fst (91 :: t) = fst91 t (setR (t.length + 2) (setStart t) []) := by
  simp only [fst]
  rw [if_neg (by decide), if_neg (by decide), if_neg (by decide)]
  refine (if_pos trivial).trans ?_
  rcases setR (t.length + 2) (setStart t) [] with _ | _ | ⟨l2, ps⟩ <;> rfl
theorem fst_o {c : UInt8} (t : List UInt8) (h1 : c ≠ 42) (h2 : c ≠ 63) (h3 : c ≠ 92) (h4 : c ≠ 91) : fst (c :: t) = some ((0, [(c, c)], false), t) := by
  simp only [fst]
  rw [if_neg h1, if_neg h2, if_neg h3, if_neg h4]
/-- a result's block, as it is made. -/
def Rz : Obj := .cells #[.int .i64 0, .slice none 0 0, .bool false] 40
theorem own_one2 (w : World) (o : Obj) (p : UInt8 × UInt8) : ((w.alloc o).alloc (.cells #[.int .u8 (p.1.toNat : Int), .int .u8 (p.2.toNat : Int)] 57)).drew.ownsRow w.heap.size 57 2 (.slice (some ⟨w.heap.size + 1, 0, none⟩) 1 1) 1 (rowB [p]) := by
  have h := World.ownsRow_lit (base := w.heap.size) (e := 57) (size := 2) (w.alloc o) #[.int .u8 (p.1.toNat : Int), .int .u8 (p.2.toNat : Int)] 1 (by simp) (by simp [maxLen]) rfl
  have e : (w.alloc o).heap.size = w.heap.size + 1 := by simp
  rw [e] at h
  exact h.drew
set_option maxRecDepth 100000 in
set_option maxHeartbeats 3200000 in
theorem first_o (s : ByteArray) (n : Nat) (c : UInt8) (t : List UInt8) (e91 : c ≠ 91) (hp : Pos s n (c :: t)) (hs : s.size ≤ 1000) (w : World) :
    Calls Try.prog 16 #[.string s, .int .i64 (n : Int)] w fun e w' => FirstPost w w' e s (fst (c :: t)) := by
  have hlt := hp.lt
  have hat := hp.at hlt
  have HP := Lib.hid hp
  clear hp
  obtain ⟨r, hr⟩ : ∃ r, fst (c :: t) = r := ⟨_, rfl⟩
  rw [hr]
  have HR := Lib.hid hr
  clear hr
  go_enter Try.func16, Try.ntmps16
  by_cases e42 : c = 42
  · have hr := HR.out
    subst e42
    rw [fst_42] at hr
    have HR := Lib.hid hr
    clear hr
    have q42 : (((42 : UInt8).toNat : Int) == 42) = true := rfl
    by_cases ht : t.head? = some 42
    · obtain ⟨t2, rfl⟩ : ∃ t2, t = 42 :: t2 := by
        cases t with
        | nil => simp at ht
        | cons a t2 => simp at ht; exact ⟨t2, by rw [ht]⟩
      have hp2 := HP.out.next
      have hlt2 := hp2.lt
      have hat2 := hp2.at hlt2
      have hr : r = some ((2, [], false), t2) := HR.out.symm
      subst hr
      have HP3 := Lib.hid hp2.next
      clear hp2 HP HR ht
      go_wp2
      (try simp only [Exit.inBlock, Exit.then])
      refine bodyPost_ret (v := .tuple #[.agg #[.int .i64 2, .slice none 0 0, .bool false], .int .i64 ((n : Int) + 2)]) (by rw [results_cell_tmp rfl]; go_simp) rfl ⟨_, n + 1 + 1, ?_, HP3.out, own_nil _ _ _ _, by (repeat' (first | exact Below.refl _ _ | refine Below.drew ?_ | refine Below.setCell ?_ (by simp <;> omega) _ | refine Below.alloc ?_ (by simp <;> omega) _))⟩
      rfl
    · have hr : r = some ((1, [], false), t) := by
        have := HR.out
        unfold fst42 at this
        rw [if_neg ht] at this
        exact this.symm
      subst hr
      have HP3 := Lib.hid HP.out.next
      clear HR
      cases t with
      | nil =>
        have hl := HP.out.len
        have hnx : ¬ (n : Int) + 1 < (s.size : Int) := by simp at hl; omega
        clear hl HP ht
        go_wp2
        (try simp only [Exit.inBlock, Exit.then])
        refine bodyPost_ret (v := .tuple #[.agg #[.int .i64 1, .slice none 0 0, .bool false], .int .i64 ((n : Int) + 1)]) (by rw [results_cell_tmp rfl]; go_simp) rfl ⟨_, n + 1, ?_, HP3.out, own_nil _ _ _ _, by (repeat' (first | exact Below.refl _ _ | refine Below.drew ?_ | refine Below.setCell ?_ (by simp <;> omega) _ | refine Below.alloc ?_ (by simp <;> omega) _))⟩
        rfl
      | cons a t2 =>
        have hlt2 := HP.out.next.lt
        have hat2 := HP.out.next.at hlt2
        have hnx : ((a.toNat : Int) == 42) = false := beq_eq_false_iff_ne.2 (u8_ne a 42 (by omega) (fun e => ht (by rw [e]; rfl)))
        clear HP ht
        go_wp2
        (try simp only [Exit.inBlock, Exit.then])
        refine bodyPost_ret (v := .tuple #[.agg #[.int .i64 1, .slice none 0 0, .bool false], .int .i64 ((n : Int) + 1)]) (by rw [results_cell_tmp rfl]; go_simp) rfl ⟨_, n + 1, ?_, HP3.out, own_nil _ _ _ _, by (repeat' (first | exact Below.refl _ _ | refine Below.drew ?_ | refine Below.setCell ?_ (by simp <;> omega) _ | refine Below.alloc ?_ (by simp <;> omega) _))⟩
        rfl
  have n42 : ((c.toNat : Int) == 42) = false := beq_eq_false_iff_ne.2 (u8_ne c 42 (by omega) e42)
  by_cases e63 : c = 63
  · have hr := HR.out
    subst e63
    rw [fst_63] at hr
    subst hr
    have q63 : (((63 : UInt8).toNat : Int) == 63) = true := rfl
    have HP3 := Lib.hid HP.out.next
    clear HR HP
    go_wp2
    (try simp only [Exit.inBlock, Exit.then])
    refine bodyPost_ret (v := .tuple #[.agg #[.int .i64 0, .slice none 0 0, .bool true], .int .i64 ((n : Int) + 1)]) (by rw [results_cell_tmp rfl]; go_simp) rfl ⟨_, n + 1, ?_, HP3.out, own_nil _ _ _ _, by (repeat' (first | exact Below.refl _ _ | refine Below.drew ?_ | refine Below.setCell ?_ (by simp <;> omega) _ | refine Below.alloc ?_ (by simp <;> omega) _))⟩
    rfl
  have n63 : ((c.toNat : Int) == 63) = false := beq_eq_false_iff_ne.2 (u8_ne c 63 (by omega) e63)
  by_cases e92 : c = 92
  · have hr := HR.out
    subst e92
    rw [fst_92] at hr
    have q92 : (((92 : UInt8).toNat : Int) == 92) = true := rfl
    cases t with
    | nil =>
      have hr : r = none := hr.symm
      subst hr
      have hl := HP.out.len
      have hnx : ((s.size : Int) ≤ (n : Int) + 1) := by simp at hl; omega
      clear hl HP HR
      go_wp2
      (try simp only [Exit.inBlock, Exit.then])
      refine bodyPost_ret (v := .tuple #[.agg #[.int .i64 0, .slice none 0 0, .bool false], .int .i64 (-1)]) (by rw [results_cell_tmp rfl]; go_simp) rfl ⟨rfl, by (repeat' (first | exact Below.refl _ _ | refine Below.drew ?_ | refine Below.setCell ?_ (by simp <;> omega) _ | refine Below.alloc ?_ (by simp <;> omega) _))⟩
    | cons d t2 =>
      have hr : r = some ((0, [(d, d)], false), t2) := hr.symm
      subst hr
      have hlt2 := HP.out.next.lt
      have hat2 := HP.out.next.at hlt2
      have HP3 := Lib.hid HP.out.next.next
      have hw1 : wrap64 ((n : Int) + 1) = (n : Int) + 1 := by unfold wrap64; omega
      have hw2 : wrap64 ((n : Int) + 2) = (n : Int) + 2 := by unfold wrap64; omega
      have hnn : (0 : Int) ≤ (n : Int) + 1 := by omega
      clear HP HR
      go_wp2_with fail
      refine start_ (n := 15) (S := fun w' => True) (ds := [13]) #[false, false, false, false, false, false, false, false, false, false, false, false, false, false, false] (by kernel_rfl) rfl rfl trivial (fun hHeld => ?_)
      refine pure_ (i := 0) (N := some 46) (v := ?_) (a' := ?_) #[true, false, false, false, false, false, false, false, false, false, false, false, false, false, false] rfl rfl (by kernel_rfl) (fun _ _ _ h => h) (Or.inl ⟨by rfl, ?_⟩) ?_ ?_
      rotate_left
      · intro w'
        go_simp
        with_reducible rfl
      rotate_left
      · simp only [Act.put, List.setIfInBounds_toArray, List.set_cons_zero, List.set_cons_succ, i64_w, i32_w]
        rfl
      refine pure_ (i := 1) (N := some 47) (v := ?_) (a' := ?_) #[true, true, false, false, false, false, false, false, false, false, false, false, false, false, false] rfl rfl (by kernel_rfl) (fun _ _ _ h => h) (Or.inl ⟨by rfl, ?_⟩) ?_ ?_
      rotate_left
      · intro w'
        go_simp
        with_reducible rfl
      rotate_left
      · simp only [Act.put, List.setIfInBounds_toArray, List.set_cons_zero, List.set_cons_succ, i64_w, i32_w]
        rfl
      refine pure_ (i := 2) (N := some 48) (v := ?_) (a' := ?_) #[true, true, true, false, false, false, false, false, false, false, false, false, false, false, false] rfl rfl (by kernel_rfl) (fun _ _ _ h => h) (Or.inl ⟨by rfl, ?_⟩) ?_ ?_
      rotate_left
      · intro w'
        go_simp
        with_reducible rfl
      rotate_left
      · simp only [Act.put, List.setIfInBounds_toArray, List.set_cons_zero, List.set_cons_succ, i64_w, i32_w]
        rfl
      refine pure_ (i := 4) (N := some 50) (v := ?_) (a' := ?_) #[true, true, true, false, true, false, false, false, false, false, false, false, false, false, false] rfl rfl (by kernel_rfl) (fun _ _ _ h => h) (Or.inl ⟨by rfl, ?_⟩) ?_ ?_
      rotate_left
      · intro w'
        go_simp
        with_reducible rfl
      rotate_left
      · simp only [Act.put, List.setIfInBounds_toArray, List.set_cons_zero, List.set_cons_succ, i64_w, i32_w]
        rfl
      refine pure_ (i := 5) (N := some 51) (v := ?_) (a' := ?_) #[true, true, true, false, true, true, false, false, false, false, false, false, false, false, false] rfl rfl (by kernel_rfl) (fun _ _ _ h => h) (Or.inl ⟨by rfl, ?_⟩) ?_ ?_
      rotate_left
      · intro w'
        go_simp
        with_reducible rfl
      rotate_left
      · simp only [Act.put, List.setIfInBounds_toArray, List.set_cons_zero, List.set_cons_succ, i64_w, i32_w]
        rfl
      refine pure_ (i := 6) (N := some 52) (v := ?_) (a' := ?_) #[true, true, true, false, true, true, true, false, false, false, false, false, false, false, false] rfl rfl (by kernel_rfl) (fun _ _ _ h => h) (Or.inl ⟨by rfl, ?_⟩) ?_ ?_
      rotate_left
      · intro w'
        go_simp
        with_reducible rfl
      rotate_left
      · simp only [Act.put, List.setIfInBounds_toArray, List.set_cons_zero, List.set_cons_succ, i64_w, i32_w]
        rfl
      refine pure_ (i := 11) (N := some 57) (v := ?_) (a' := ?_) #[true, true, true, false, true, true, true, false, false, false, false, true, false, false, false] rfl rfl (by kernel_rfl) (fun _ _ _ h => h) (Or.inl ⟨by rfl, ?_⟩) ?_ ?_
      rotate_left
      · intro w'
        go_simp
        with_reducible rfl
      rotate_left
      · simp only [Act.put, List.setIfInBounds_toArray, List.set_cons_zero, List.set_cons_succ, i64_w, i32_w]
        rfl
      refine pure_ (i := 12) (N := some 58) (v := ?_) (a' := ?_) #[true, true, true, false, true, true, true, false, false, false, false, true, true, false, false] rfl rfl (by kernel_rfl) (fun _ _ _ h => h) (Or.inl ⟨by rfl, ?_⟩) ?_ ?_
      rotate_left
      · intro w'
        go_simp
        with_reducible rfl
      rotate_left
      · simp only [Act.put, List.setIfInBounds_toArray, List.set_cons_zero, List.set_cons_succ, i64_w, i32_w]
        rfl
      refine take_ (i := 3) (N := some 49) (v := ?_) (a' := ?_) #[true, true, true, true, true, true, true, false, false, false, false, true, true, false, false] rfl rfl (by kernel_rfl) (fun _ _ _ h => h) (Or.inl ⟨by rfl, ?_⟩) hHeld ?_ ?_
      rotate_left
      · intro w' _
        go_simp
        with_reducible rfl
      rotate_left
      · simp only [Act.put, List.setIfInBounds_toArray, List.set_cons_zero, List.set_cons_succ, i64_w, i32_w]
        rfl
      refine take_ (i := 7) (N := some 53) (v := ?_) (a' := ?_) #[true, true, true, true, true, true, true, true, false, false, false, true, true, false, false] rfl rfl (by kernel_rfl) (fun _ _ _ h => h) (Or.inl ⟨by rfl, ?_⟩) hHeld ?_ ?_
      rotate_left
      · intro w' _
        go_simp
        with_reducible rfl
      rotate_left
      · simp only [Act.put, List.setIfInBounds_toArray, List.set_cons_zero, List.set_cons_succ, i64_w, i32_w]
        rfl
      refine pure_ (i := 8) (N := some 54) (v := ?_) (a' := ?_) #[true, true, true, true, true, true, true, true, true, false, false, true, true, false, false] rfl rfl (by kernel_rfl) (fun _ _ _ h => h) (Or.inl ⟨by rfl, ?_⟩) ?_ ?_
      rotate_left
      · intro w'
        go_simp
        with_reducible rfl
      rotate_left
      · simp only [Act.put, List.setIfInBounds_toArray, List.set_cons_zero, List.set_cons_succ, i64_w, i32_w]
        rfl
      refine one_ (i := 9) (N := some 55) #[true, true, true, true, true, true, true, true, true, true, false, true, true, false, false] rfl rfl (by kernel_rfl) (by decide) (fun K hK => ?_)
      refine value_ (w1 := ?_) (v := ?_) (by rfl) rfl ?_ ?_
      rotate_left 2
      · go_simp
        constructor
        · rfl
        · rfl
      refine hK.out _ _ trivial (fun hHeld => ?_)
      clear hK K
      refine norm_ (a' := ?_) ?_ ?_
      rotate_left
      · show Act.put _ (some 55) _ = _
        simp only [Act.put, List.setIfInBounds_toArray, List.set_cons_zero, List.set_cons_succ, i64_w, i32_w]
        rfl
      refine pure_ (i := 10) (N := some 56) (v := ?_) (a' := ?_) #[true, true, true, true, true, true, true, true, true, true, true, true, true, false, false] rfl rfl (by kernel_rfl) (fun _ _ _ h => h) (Or.inl ⟨by rfl, ?_⟩) ?_ ?_
      rotate_left
      · intro w'
        go_simp
        with_reducible rfl
      rotate_left
      · simp only [Act.put, List.setIfInBounds_toArray, List.set_cons_zero, List.set_cons_succ, i64_w, i32_w]
        rfl
      refine last_ (i := 13) (N := none) #[true, true, true, true, true, true, true, true, true, true, true, true, true, true, false] rfl rfl (by kernel_rfl) (by decide) (fun K hK => ?_)
      refine skip_ (w1 := ?_) (by rfl) rfl ?_ ?_
      rotate_left
      · go_simp
        rfl
      refine hK.out _ _ ?_
      clear hK K
      refine pure_ (i := 14) (N := some 5) (v := ?_) (a' := ?_) #[true, true, true, true, true, true, true, true, true, true, true, true, true, true, true] rfl rfl (by kernel_rfl) (fun _ _ _ h => h) (Or.inl ⟨by rfl, ?_⟩) ?_ ?_
      rotate_left
      · intro w'
        go_simp
        with_reducible rfl
      rotate_left
      · simp only [Act.put, List.setIfInBounds_toArray, List.set_cons_zero, List.set_cons_succ, i64_w, i32_w]
        rfl
      refine done_ (by kernel_rfl) ?_
      go_wp2
      (try simp only [Exit.inBlock, Exit.then])
      refine bodyPost_ret (v := .tuple #[.agg #[.int .i64 0, .slice (some ⟨w.heap.size + 1, 0, none⟩) 1 1, .bool false], .int .i64 ((n : Int) + 2)]) (by rw [results_cell_tmp rfl]; go_simp) rfl ⟨.slice (some ⟨w.heap.size + 1, 0, none⟩) 1 1, n + 1 + 1, ?_, HP3.out, ?_, by (repeat' (first | exact Below.refl _ _ | refine Below.drew ?_ | refine Below.setCell ?_ (by simp <;> omega) _ | refine Below.alloc ?_ (by simp <;> omega) _))⟩
      · rfl
      · exact own_one2 w _ (d, d)
  have n92 : ((c.toNat : Int) == 92) = false := beq_eq_false_iff_ne.2 (u8_ne c 92 (by omega) e92)
  have n91 : ((c.toNat : Int) == 91) = false := beq_eq_false_iff_ne.2 (u8_ne c 91 (by omega) e91)
  have hr : r = some ((0, [(c, c)], false), t) := by rw [← HR.out]; exact fst_o t e42 e63 e92 e91
  subst hr
  have HP3 := Lib.hid HP.out.next
  have hw1 : wrap64 ((n : Int) + 1) = (n : Int) + 1 := by unfold wrap64; omega
  clear HP HR e42 e63 e92 e91
  go_wp2_with fail
  refine start_ (n := 13) (S := fun w' => True) (ds := [11]) #[false, false, false, false, false, false, false, false, false, false, false, false, false] (by kernel_rfl) rfl rfl trivial (fun hHeld => ?_)
  refine pure_ (i := 0) (N := some 144) (v := ?_) (a' := ?_) #[true, false, false, false, false, false, false, false, false, false, false, false, false] rfl rfl (by kernel_rfl) (fun _ _ _ h => h) (Or.inl ⟨by rfl, ?_⟩) ?_ ?_
  rotate_left
  · intro w'
    go_simp
    with_reducible rfl
  rotate_left
  · simp only [Act.put, List.setIfInBounds_toArray, List.set_cons_zero, List.set_cons_succ, i64_w, i32_w]
    rfl
  refine pure_ (i := 1) (N := some 145) (v := ?_) (a' := ?_) #[true, true, false, false, false, false, false, false, false, false, false, false, false] rfl rfl (by kernel_rfl) (fun _ _ _ h => h) (Or.inl ⟨by rfl, ?_⟩) ?_ ?_
  rotate_left
  · intro w'
    go_simp
    with_reducible rfl
  rotate_left
  · simp only [Act.put, List.setIfInBounds_toArray, List.set_cons_zero, List.set_cons_succ, i64_w, i32_w]
    rfl
  refine pure_ (i := 3) (N := some 147) (v := ?_) (a' := ?_) #[true, true, false, true, false, false, false, false, false, false, false, false, false] rfl rfl (by kernel_rfl) (fun _ _ _ h => h) (Or.inl ⟨by rfl, ?_⟩) ?_ ?_
  rotate_left
  · intro w'
    go_simp
    with_reducible rfl
  rotate_left
  · simp only [Act.put, List.setIfInBounds_toArray, List.set_cons_zero, List.set_cons_succ, i64_w, i32_w]
    rfl
  refine pure_ (i := 4) (N := some 148) (v := ?_) (a' := ?_) #[true, true, false, true, true, false, false, false, false, false, false, false, false] rfl rfl (by kernel_rfl) (fun _ _ _ h => h) (Or.inl ⟨by rfl, ?_⟩) ?_ ?_
  rotate_left
  · intro w'
    go_simp
    with_reducible rfl
  rotate_left
  · simp only [Act.put, List.setIfInBounds_toArray, List.set_cons_zero, List.set_cons_succ, i64_w, i32_w]
    rfl
  refine pure_ (i := 9) (N := some 153) (v := ?_) (a' := ?_) #[true, true, false, true, true, false, false, false, false, true, false, false, false] rfl rfl (by kernel_rfl) (fun _ _ _ h => h) (Or.inl ⟨by rfl, ?_⟩) ?_ ?_
  rotate_left
  · intro w'
    go_simp
    with_reducible rfl
  rotate_left
  · simp only [Act.put, List.setIfInBounds_toArray, List.set_cons_zero, List.set_cons_succ, i64_w, i32_w]
    rfl
  refine pure_ (i := 10) (N := some 154) (v := ?_) (a' := ?_) #[true, true, false, true, true, false, false, false, false, true, true, false, false] rfl rfl (by kernel_rfl) (fun _ _ _ h => h) (Or.inl ⟨by rfl, ?_⟩) ?_ ?_
  rotate_left
  · intro w'
    go_simp
    with_reducible rfl
  rotate_left
  · simp only [Act.put, List.setIfInBounds_toArray, List.set_cons_zero, List.set_cons_succ, i64_w, i32_w]
    rfl
  refine take_ (i := 2) (N := some 146) (v := ?_) (a' := ?_) #[true, true, true, true, true, false, false, false, false, true, true, false, false] rfl rfl (by kernel_rfl) (fun _ _ _ h => h) (Or.inl ⟨by rfl, ?_⟩) hHeld ?_ ?_
  rotate_left
  · intro w' _
    go_simp
    with_reducible rfl
  rotate_left
  · simp only [Act.put, List.setIfInBounds_toArray, List.set_cons_zero, List.set_cons_succ, i64_w, i32_w]
    rfl
  refine take_ (i := 5) (N := some 149) (v := ?_) (a' := ?_) #[true, true, true, true, true, true, false, false, false, true, true, false, false] rfl rfl (by kernel_rfl) (fun _ _ _ h => h) (Or.inl ⟨by rfl, ?_⟩) hHeld ?_ ?_
  rotate_left
  · intro w' _
    go_simp
    with_reducible rfl
  rotate_left
  · simp only [Act.put, List.setIfInBounds_toArray, List.set_cons_zero, List.set_cons_succ, i64_w, i32_w]
    rfl
  refine pure_ (i := 6) (N := some 150) (v := ?_) (a' := ?_) #[true, true, true, true, true, true, true, false, false, true, true, false, false] rfl rfl (by kernel_rfl) (fun _ _ _ h => h) (Or.inl ⟨by rfl, ?_⟩) ?_ ?_
  rotate_left
  · intro w'
    go_simp
    with_reducible rfl
  rotate_left
  · simp only [Act.put, List.setIfInBounds_toArray, List.set_cons_zero, List.set_cons_succ, i64_w, i32_w]
    rfl
  refine one_ (i := 7) (N := some 151) #[true, true, true, true, true, true, true, true, false, true, true, false, false] rfl rfl (by kernel_rfl) (by decide) (fun K hK => ?_)
  refine value_ (w1 := ?_) (v := ?_) (by rfl) rfl ?_ ?_
  rotate_left 2
  · go_simp
    constructor
    · rfl
    · rfl
  refine hK.out _ _ trivial (fun hHeld => ?_)
  clear hK K
  refine norm_ (a' := ?_) ?_ ?_
  rotate_left
  · show Act.put _ (some 151) _ = _
    simp only [Act.put, List.setIfInBounds_toArray, List.set_cons_zero, List.set_cons_succ, i64_w, i32_w]
    rfl
  refine pure_ (i := 8) (N := some 152) (v := ?_) (a' := ?_) #[true, true, true, true, true, true, true, true, true, true, true, false, false] rfl rfl (by kernel_rfl) (fun _ _ _ h => h) (Or.inl ⟨by rfl, ?_⟩) ?_ ?_
  rotate_left
  · intro w'
    go_simp
    with_reducible rfl
  rotate_left
  · simp only [Act.put, List.setIfInBounds_toArray, List.set_cons_zero, List.set_cons_succ, i64_w, i32_w]
    rfl
  refine last_ (i := 11) (N := none) #[true, true, true, true, true, true, true, true, true, true, true, true, false] rfl rfl (by kernel_rfl) (by decide) (fun K hK => ?_)
  refine skip_ (w1 := ?_) (by rfl) rfl ?_ ?_
  rotate_left
  · go_simp
    rfl
  refine hK.out _ _ ?_
  clear hK K
  refine pure_ (i := 12) (N := some 5) (v := ?_) (a' := ?_) #[true, true, true, true, true, true, true, true, true, true, true, true, true] rfl rfl (by kernel_rfl) (fun _ _ _ h => h) (Or.inl ⟨by rfl, ?_⟩) ?_ ?_
  rotate_left
  · intro w'
    go_simp
    with_reducible rfl
  rotate_left
  · simp only [Act.put, List.setIfInBounds_toArray, List.set_cons_zero, List.set_cons_succ, i64_w, i32_w]
    rfl
  refine done_ (by kernel_rfl) ?_
  go_wp2
  (try simp only [Exit.inBlock, Exit.then])
  refine bodyPost_ret (v := .tuple #[.agg #[.int .i64 0, .slice (some ⟨w.heap.size + 1, 0, none⟩) 1 1, .bool false], .int .i64 ((n : Int) + 1)]) (by rw [results_cell_tmp rfl]; go_simp) rfl ⟨.slice (some ⟨w.heap.size + 1, 0, none⟩) 1 1, n + 1, ?_, HP3.out, ?_, by (repeat' (first | exact Below.refl _ _ | refine Below.drew ?_ | refine Below.setCell ?_ (by simp <;> omega) _ | refine Below.alloc ?_ (by simp <;> omega) _))⟩
  · rfl
  · exact own_one2 w _ (c, c)
end Go.Proofs.Ytkgldphpkglcmaa.Gl
