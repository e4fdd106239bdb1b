/- the reference's Pieces and Stars. -/
import Derived.Test.YtkgldphpkglcmaaGlR
namespace Go.Proofs.Ytkgldphpkglcmaa.Gl
open Go.RowKit Go.Proofs.YtkgldphpkglcmaaW.PrintWords Go.Proofs.YtkgldphpkglcmaaW.PrintLast Go.Proofs.YtkgldphpkglcmaaW.PrintMore
set_option linter.unusedSimpArgs false
set_option linter.unusedVariables false
def pcL : Nat → List UInt8 → List RP → Option (Option (List RP))
  | 0, _, _ => none
  | k + 1, l, xs => match l with
    | [] => some (some xs)
    | c :: t => match fst (c :: t) with
      | none => some none
      | some (x, rest) => pcL k rest (xs ++ [x])
theorem setR_len : ∀ (k : Nat) (l : List UInt8) (ps : List (UInt8 × UInt8)) (l2 : List UInt8) (p2 : List (UInt8 × UInt8)), setR k l ps = some (some (l2, p2)) → l2.length ≤ l.length
  | 0, _, _, _, _, h => by simp [setR] at h
  | k + 1, l, ps, l2, p2, h => by
    simp only [setR] at h
    split at h
    · split at h
      · simp at h
      · simp at h; rw [h.1]; exact Nat.le_refl _
    · split at h
      · simp at h
      · exact Nat.le_trans (setR_len k _ _ l2 p2 h) (partR_len l)
theorem fst_len (c : UInt8) (t : List UInt8) (x : RP) (rest : List UInt8) (h : fst (c :: t) = some (x, rest)) : rest.length ≤ t.length := by
  by_cases e42 : c = 42
  · subst e42
    rw [fst_42] at h
    unfold fst42 at h
    split at h
    · simp at h; rw [← h.2]; simp
    · simp at h; rw [← h.2]; exact Nat.le_refl _
  by_cases e63 : c = 63
  · subst e63; rw [fst_63] at h; simp at h; rw [← h.2]; exact Nat.le_refl _
  by_cases e92 : c = 92
  · subst e92
    rw [fst_92] at h
    cases t with
    | nil => simp [fst92] at h
    | cons d t => simp [fst92] at h; rw [← h.2]; simp
  by_cases e91 : c = 91
  · subst e91
    rw [fst_91] at h
    cases hr : setR (t.length + 2) (setStart t) [] with
    | none => rw [hr] at h; simp [fst91] at h
    | some o => cases o with
      | none => rw [hr] at h; simp [fst91] at h
      | some y =>
        obtain ⟨l2, ps⟩ := y
        rw [hr] at h
        simp [fst91] at h
        have h1 := setR_len _ _ _ _ _ hr
        have h2 := setStart_len t
        rw [← h.2]
        simp
        omega
  · rw [fst_o t e42 e63 e92 e91] at h; simp at h; rw [← h.2]; exact Nat.le_refl _
theorem pcL_some : ∀ (k : Nat) (l : List UInt8) (xs : List RP), l.length < k → ∃ r, pcL k l xs = some r
  | 0, l, xs, h => by omega
  | k + 1, [], xs, h => ⟨_, rfl⟩
  | k + 1, c :: t, xs, h => by
    simp only [pcL]
    cases hf : fst (c :: t) with
    | none => exact ⟨_, rfl⟩
    | some y =>
      obtain ⟨x, rest⟩ := y
      have := fst_len c t x rest hf
      simp at h
      exact pcL_some k rest _ (by omega)
/-- a piece's cells: its kind, its parts (a slice), whether it is turned. -/
abbrev QP := Int × Value × Bool
def qcs (x : QP) : List Value := [.int .i64 x.1, x.2.1, .bool x.2.2]
def rowQ (xs : List QP) : List Value := (xs.map qcs).flatten
theorem rowQ_snoc (xs : List QP) (x : QP) : rowQ (xs ++ [x]) = rowQ xs ++ qcs x := by simp [rowQ]
theorem info52 : (Try.prog.info? 40).map (fun i => (i.zero, i.size, i.bytes)) = some (some (.agg #[.int .i64 0, .slice none 0 0, .bool false]), 3, 40) := by kernel_rfl
def PiecesPost (w w' : World) (e : Ending) : Option (List RP) → Prop
  | none => e = .returned (.tuple #[.slice none 0 0, .bool false]) ∧ Below w.heap.size w w'
  | some xs => ∃ v ys, e = .returned (.tuple #[v, .bool true]) ∧ w'.ownsRow w.heap.size 40 3 v ys.length (rowQ ys) ∧ ys.map (·.1) = xs.map (·.1) ∧ Below w.heap.size w w' ∧ ys.length ≤ 1000
theorem qs_n (W1 : World) (x : QP) : ∀ j u, (qcs x)[j]? = some u → (W1.alloc (.cells #[.int .i64 x.1, x.2.1, .bool x.2.2] 40)).cell? ((⟨W1.heap.size, 0, none⟩ : Addr).add j) = some u :=
  fun j u hu => World.news_of_block (cs := (qcs x).toArray) (t := 40) (fr := (0, 0)) (heap_alloc_new W1 _) j u hu
theorem qcs_one (x : QP) (h : x.2.1.oneCell' = true) : ∀ u ∈ qcs x, u.oneCell' = true := by
  intro u hu
  simp [qcs] at hu
  rcases hu with rfl | rfl | rfl
  · rfl
  · exact h
  · rfl
set_option maxRecDepth 100000 in
set_option maxHeartbeats 3200000 in
theorem pieces_ref (s : ByteArray) (r0 : Option (List RP)) (hr : pcL (s.size + 1) s.data.toList [] = some r0) (hs : s.size ≤ 1000) (w : World) :
    Calls Try.prog 8 #[.string s] w fun e w' => PiecesPost w w' e r0 := by
  have HR := Lib.hid hr
  clear hr
  obtain ⟨i52, hi52, hzz⟩ := Option.map_eq_some_iff.1 info52
  simp only [Prod.mk.injEq] at hzz
  obtain ⟨hz52, hs52, hb52⟩ := hzz
  have INF := Lib.hid (And.intro hi52 (And.intro hz52 (And.intro hs52 hb52)))
  clear hi52 hz52 hs52 hb52
  go_enter Try.func8, Try.ntmps8
  go_wp2_with fail
  go_loopg [5, 4] (s.size + 1) (fun gk v5 v4 wr => ∃ (n : Nat) (l : List UInt8) (xs : List RP) (ys : List QP), v5 = .int .i64 (n : Int) ∧ Pos s n l ∧ wr.ownsRow w.heap.size 40 3 v4 ys.length (rowQ ys) ∧ ys.map (·.1) = xs.map (·.1) ∧ Below w.heap.size w wr ∧ Aside0 (pcL gk l xs = some r0) ∧ ys.length + l.length ≤ 1000)
  case atStart => exact ⟨0, _, [], [], rfl, Pos.zero s, own_nil _ _ _ _, rfl, Below.refl _ _, ⟨HR.out⟩, by rw [data_length]; simpa using hs⟩
  case round =>
    clear HR
    obtain ⟨n, l, xs, ys, rfl, hp, hown, hxy, hbel, hR, hlen⟩ := hrel
    cases gk with
    | zero => exact absurd hR.out (by simp [pcL])
    | succ k =>
      obtain ⟨A, cap, rfl⟩ := own_slice hown
      cases l with
      | nil =>
        have hrn : r0 = some xs := by have := hR.out; simp only [pcL] at this; simpa using this.symm
        subst hrn
        have hl := hp.len
        have hnx : ¬ (n : Int) < (s.size : Int) := by simp at hl; omega
        clear hl hR
        go_wp2
        go_ret2
        exact ⟨_, ys, rfl, hown, hxy, hbel, by simpa using hlen⟩
      | cons c t =>
        have hlt := hp.lt
        have hB : w.heap.size ≤ wr.heap.size := hbel.size
        go_wp2_with fail
        refine (first_ref s n c t hp hs _).mono ?_
        intro e w1 hpost
        cases hf : fst (c :: t) with
        | none =>
          rw [hf] at hpost
          obtain ⟨rfl, hb1⟩ := hpost
          have hrn : r0 = none := by have := hR.out; simp only [pcL] at this; rw [hf] at this; simpa using this.symm
          subst hrn
          have hbel1 := hbel.trans (hb1.mono hB)
          clear hR
          go_wp2
          go_ret2
          exact ⟨rfl, hbel1.alloc (by have := hb1.size; omega) _⟩
        | some y =>
          obtain ⟨x, rest⟩ := y
          rw [hf] at hpost
          obtain ⟨pv, n2, rfl, hp2, hpo, hb1⟩ := hpost
          obtain ⟨pA, pc, rfl⟩ := own_slice hpo
          have hR2 : pcL k rest (xs ++ [x]) = some r0 := by have := hR.out; simp only [pcL] at this; rwa [hf] at this
          have hlr := fst_len c t x rest hf
          have hlen2 : ys.length + 1 + rest.length ≤ 1000 := by simp at hlen; omega
          have hown1 := pw_own_below hown hb1
          have hbel1 := hbel.trans (hb1.mono hB)
          have hB1 : w.heap.size ≤ w1.heap.size := hbel1.size
          obtain ⟨W1, hW1⟩ : ∃ W1, W1 = w1.alloc (.cells #[.int .i64 x.1, .slice pA x.2.1.length pc, .bool x.2.2] 40) := ⟨_, rfl⟩
          have hownW : ∀ o, (W1.alloc o).ownsRow w.heap.size 40 3 (.slice A ys.length cap) ys.length (rowQ ys) := fun o => by rw [hW1]; exact (hown1.alloc _).alloc o
          have hbW : ∀ o, w.heap.size ≤ (W1.alloc o).heap.size := fun o => by rw [hW1]; simp; omega
          have hbelW : ∀ o, Below w.heap.size w (W1.alloc o) := fun o => by rw [hW1]; exact (hbel1.alloc (by omega) _).alloc (by simp; omega) _
          have hqn := qs_n W1 ((x.1, .slice pA x.2.1.length pc, x.2.2) : QP)
          have hxy2 : (ys ++ [((x.1, .slice pA x.2.1.length pc, x.2.2) : QP)]).map (·.1) = (xs ++ [x]).map (·.1) := by rw [List.map_append, List.map_append, hxy]; rfl
          have HP := Lib.hid (And.intro hR2 (And.intro hp2 (And.intro hlen2 hxy2)))
          have HQ := Lib.hid (And.intro hownW (And.intro hbW (And.intro hbelW hqn)))
          have HW := Lib.hid hW1
          obtain ⟨hi52, hz52, hs52, hb52⟩ := INF.out
          clear hR hR2 hf hp2 hpo hown hown1 hbel hbel1 hownW hbW hbelW hqn hxy hxy2 hW1 hlen hlen2 hb1
          have hlA : (ys.length + 1) * 40 ≤ 140737488355328 := by have := HP.out.2.2.1; omega
          have hlM : ys.length + 1 ≤ maxLen := by have := HP.out.2.2.1; unfold maxLen; omega
          go_upto_region 7 with (fail)
          rw [← HW.out]
          obtain ⟨hc0, hc1, hc2⟩ : W1.cell? ⟨w1.heap.size, 0, none⟩ = some (.int .i64 x.1) ∧ W1.cell? ⟨w1.heap.size, 1, none⟩ = some (.slice pA x.2.1.length pc) ∧ W1.cell? ⟨w1.heap.size, 2, none⟩ = some (.bool x.2.2) := by
            have hn := heap_alloc_new w1 (.cells #[.int .i64 x.1, .slice pA x.2.1.length pc, .bool x.2.2] 40)
            rw [← HW.out] at hn
            exact ⟨cell_of_row W1 _ 0 _ 40 (0, 0) hn, cell_of_row W1 _ 1 _ 40 (0, 0) hn, cell_of_row W1 _ 2 _ 40 (0, 0) hn⟩
          go_wp2_with (at_builtin; refine wpList_append_lies _ rfl (.tmp 20) (.tmp 22) 27 rfl w.heap.size 40 i52 _ 3 40 Try.underlying27 hi52 hz52 hs52 hb52 rfl (by omega) (.slice A ys.length cap) ys.length (rowQ ys) rfl (HQ.out.1 _) ⟨W1.heap.size, 0, none⟩ 1 1 (qcs ((x.1, .slice pA x.2.1.length pc, x.2.2) : QP)) rfl rfl HQ.out.2.2.2 (qcs_one _ rfl) (by omega) hlM hlA (HQ.out.2.1 _) _ rfl ?_; intro g2 cap2 w2 hown2 hgr2 _ _)
          go_roundg k
          case measure => omega
          case rel =>
            refine ⟨n2, rest, xs ++ [x], ys ++ [((x.1, .slice pA x.2.1.length pc, x.2.2) : QP)], rfl, HP.out.2.1, ?_, HP.out.2.2.2, ?_, ⟨HP.out.1⟩, by have := HP.out.2.2.1; simp; omega⟩
            · rw [rowQ_snoc, List.length_append, List.length_singleton]; exact hown2
            · exact (HQ.out.2.2.1 _).grown hgr2 (HQ.out.2.1 _) (own_base (HQ.out.1 (.cells #[] 0)))
def starsQ (ks : List Int) : Nat := ks.countP (fun k => decide (0 < k))
def starsR : Option (List RP) → Nat
  | none => 0
  | some xs => starsQ (xs.map (·.1))
theorem rowQ_at : ∀ (ys : List QP) (i : Nat) (y : QP), ys[i]? = some y → (rowQ ys)[i * 3]? = some (.int .i64 y.1)
  | [], i, y, h => by simp at h
  | a :: ys, 0, y, h => by simp at h; subst h; rfl
  | a :: ys, i + 1, y, h => by
    have h1 : ys[i]? = some y := by simpa using h
    have e : rowQ (a :: ys) = qcs a ++ rowQ ys := by simp [rowQ]
    have hl : (qcs a).length = 3 := rfl
    rw [e, List.getElem?_append_right (by omega), hl, show (i + 1) * 3 - 3 = i * 3 from by omega]
    exact rowQ_at ys i y h1
set_option maxRecDepth 100000 in
set_option maxHeartbeats 3200000 in
theorem stars_ref (s : ByteArray) (r0 : Option (List RP)) (hr : pcL (s.size + 1) s.data.toList [] = some r0) (hs : s.size ≤ 1000) (w : World) :
    Calls Try.prog 13 #[.string s] w fun e w' => e = .returned (.int .i64 (starsR r0 : Nat)) ∧ Below w.heap.size w w' := by
  have hp := pieces_ref s r0 hr hs w
  have HP := Lib.hid hp
  clear hp hr
  go_enter Try.func13, Try.ntmps13
  go_wp2_with fail
  refine HP.out.mono ?_
  intro e w1 hpost
  clear HP
  cases r0 with
  | none =>
    obtain ⟨rfl, hb⟩ := hpost
    have HB := Lib.hid hb
    clear hb
    go_wp2_with fail
    go_loopg [6, 5] 0 (fun gk v6 v5 wr => v6 = .int .i64 0 ∧ v5 = .int .i64 0 ∧ w1 = wr ∧ gk = 0)
    case atStart => exact ⟨rfl, rfl, rfl, rfl⟩
    case round =>
      obtain ⟨rfl, rfl, rfl, rfl⟩ := hrel
      go_wp2
      go_ret
      exact ⟨rfl, HB.out⟩
  | some xs =>
    obtain ⟨v, ys, rfl, hown, hxy, hb, hy1⟩ := hpost
    obtain ⟨A, cap, rfl⟩ := own_slice hown
    have hrow : ∀ (i : Nat) (y : QP), ys[i]? = some y → ∃ g, A = some ⟨g, 0, none⟩ ∧ w1.cell? ⟨g, i * 3, none⟩ = some (.int .i64 y.1) := fun i y hy => by
      have hi := (List.getElem?_eq_some_iff.1 hy).1
      obtain ⟨g, cap2, e, _, _⟩ := hown.form (by omega)
      injection e with e1 e2 e3
      have hcell := hown.cells (g := g) (by rw [e1]; rfl) (i * 3) _ (rowQ_at ys i y hy)
      rw [add_plain] at hcell
      exact ⟨g, e1, hcell⟩
    have e9 : starsQ (ys.map (·.1)) = starsR (some xs) := congrArg starsQ hxy
    have HROW := Lib.hid (And.intro hrow e9)
    clear hrow e9 hown hxy
    go_wp2_with fail
    go_loopg [6, 5] ys.length (fun gk v6 v5 wr => ∃ i : Nat, i + gk = ys.length ∧ v6 = .int .i64 (i : Int) ∧ v5 = .int .i64 ((starsQ ((ys.map (·.1)).take i) : Nat) : Int) ∧ w1 = wr)
    case atStart => exact ⟨0, by omega, rfl, rfl, rfl⟩
    case round =>
      obtain ⟨i, hi, rfl, rfl, rfl⟩ := hrel
      have hsl : starsQ ((ys.map (·.1)).take i) ≤ ys.length := by
        unfold starsQ
        exact Nat.le_trans List.countP_le_length (by simp; omega)
      obtain ⟨sn, hsn⟩ : ∃ sn, starsQ ((ys.map (·.1)).take i) = sn := ⟨_, rfl⟩
      rw [hsn] at hsl ⊢
      have HSN := Lib.hid hsn
      clear hsn
      cases gk with
      | zero =>
        obtain rfl : i = ys.length := by omega
        go_wp2
        go_ret
        have e9 : sn = starsR (some xs) := by rw [← HSN.out, List.take_of_length_le (by simp)]; exact HROW.out.2
        exact ⟨by rw [← e9]; rfl, hb⟩
      | succ k =>
        have hi2 : i < ys.length := by omega
        obtain ⟨y, hy⟩ : ∃ y, ys[i]? = some y := ⟨ys[i], List.getElem?_eq_getElem hi2⟩
        obtain ⟨g, rfl, hcell⟩ := HROW.out.1 i y hy
        have e5 : (ys.map (·.1)).take (i + 1) = (ys.map (·.1)).take i ++ [y.1] := by
          rw [List.take_add_one, List.getElem?_map, hy]; rfl
        have e6 : starsQ ((ys.map (·.1)).take (i + 1)) = sn + (if 0 < y.1 then 1 else 0) := by
          rw [e5, ← HSN.out]
          simp [starsQ, List.countP_append, List.countP_cons]
        have E6 := Lib.hid e6
        clear e5 e6 hy
        by_cases hk : 0 < y.1
        · have hd : decide (0 < y.1) = true := decide_eq_true hk
          have e7 : starsQ ((ys.map (·.1)).take (i + 1)) = sn + 1 := by rw [E6.out, if_pos hk]
          have E7 := Lib.hid e7
          clear e7 E6 hk
          go_wp2
          go_roundg k
          case measure => omega
          case rel => exact ⟨i + 1, by omega, by go_num, by rw [E7.out]; go_num, rfl⟩
        · have hd : decide (0 < y.1) = false := decide_eq_false hk
          have e7 : starsQ ((ys.map (·.1)).take (i + 1)) = sn := by rw [E6.out, if_neg hk]; rfl
          have E7 := Lib.hid e7
          clear e7 E6 hk
          go_wp2
          go_roundg k
          case measure => omega
          case rel => exact ⟨i + 1, by omega, by go_num, by rw [E7.out], rfl⟩
end Go.Proofs.Ytkgldphpkglcmaa.Gl
