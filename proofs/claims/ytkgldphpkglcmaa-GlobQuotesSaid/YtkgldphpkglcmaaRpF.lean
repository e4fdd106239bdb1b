/- (*strings.Replacer).Replace; glob.Quote; the law GlobQuotes, walked. -/
import Derived.Test.YtkgldphpkglcmaaRpE
namespace Go.Proofs.Ytkgldphpkglcmaa.Rp
open Go.RowKit Go.MuLone Gl Go.Proofs.YtkgldphpkglcmaaW.PrintWords Go.Proofs.YtkgldphpkglcmaaW.PrintLast Go.Proofs.YtkgldphpkglcmaaW.PrintMore
set_option linter.unusedVariables false
set_option maxRecDepth 100000 in
set_option maxHeartbeats 3200000 in
theorem replace_any (w0 w : World) (b : Nat) (v : Value) (h : Fresh w0 w b v) (s : ByteArray) (hs : s.size ≤ 1000) :
    Calls Try.prog 20 #[.pointer (some ⟨b, 0, none⟩), .string s] w fun e w' => e = .returned (.string (tx (quoteL s.data.toList))) ∧ Below w0.heap.size w0 w' := by
  obtain ⟨g, cap, rfl⟩ : ∃ g cap, v = .slice (some ⟨g, 0, none⟩) 8 cap := by
    rcases h.own.2 with ⟨_, h0⟩ | ⟨g, cap, _, e, _⟩
    · omega
    · exact ⟨g, cap, e⟩
  have hblk := h.blk
  have hbel := h.bel
  have hBb := h.hb
  have hlt : b < w.heap.size := (Array.getElem?_eq_some_iff.1 hblk).1
  have hgb : g ≠ b := by
    rintro rfl
    obtain ⟨cells, hx⟩ := own_typed h.own g rfl
    rw [hblk] at hx
    injection hx with hx
    injection hx with _ hx
    exact absurd hx (by decide)
  have hblk1 := heap_setCell_same w b 1 _ 76 (.int .i32 1) hblk
  have hold : ∀ j x, ons[j]? = some x → (w.setCell ⟨b, 1, none⟩ (.int .i32 1)).cell? ⟨g, j, none⟩ = some (.string x) := by
    intro j x hx
    rw [World.cell?_setCell_other _ ⟨b, 1, none⟩ ⟨g, j, none⟩ _ (by intro e; injection e with e _; exact hgb e.symm)]
    have := h.own.cells (g := g) rfl j (.string x) (onv_at j x hx)
    rw [add_plain] at this
    exact this
  have hsz : (w.setCell ⟨b, 1, none⟩ (.int .i32 1)).heap.size = w.heap.size := by simp [World.setCell]
  have HO := once_any w0.heap.size b g cap _ _ _ (w.setCell ⟨b, 1, none⟩ (.int .i32 1)) hBb (by rw [hsz]; exact hbel.size) hblk1 hold
  have HD := Lib.hid (do_first b w (Built w0.heap.size b #[.int .u32 0, .int .i32 1, .int .u32 0] (w.setCell ⟨b, 1, none⟩ (.int .i32 1)))
    ((cell_of_row _ _ _ _ _ _ hblk).trans rfl) ((cell_of_row _ _ _ _ _ _ hblk).trans rfl) (frozen_of_row _ _ _ _ _ hblk) (frozen_of_row _ _ _ _ _ hblk) (HO.mono (by
      rintro e w' ⟨rfl, hB⟩
      obtain ⟨c, cs, v, e1, e2, e3, e4⟩ := hB
      refine ⟨rfl, ⟨?_, ?_, ?_, ?_⟩, ⟨c, cs, v, e1, e2, e3, e4⟩⟩
      · rw [cell_of_row _ _ _ _ _ _ e1, cell_of_row _ _ _ _ _ _ hblk1]; rfl
      · rw [cell_of_row _ _ _ _ _ _ e1, cell_of_row _ _ _ _ _ _ hblk1]; rfl
      · rw [frozen_of_row _ _ _ _ _ e1, frozen_of_row _ _ _ _ _ hblk1]
      · rw [frozen_of_row _ _ _ _ _ e1, frozen_of_row _ _ _ _ _ hblk1])))
  have HBL := Lib.hid hbel
  clear HO hold hblk hblk1 hbel h
  go_enter Try.func20, Try.ntmps20
  go_wp2_with fail
  refine HD.out.mono ?_
  rintro e w2 ⟨rfl, w1, hB, rfl⟩
  obtain ⟨c, cs, v, e1, e2, e3, e4⟩ := hB
  have q1 : w1.drew.heap[b]? = _ := e1
  have q2 := heap_setCell_same w1.drew b 0 _ 76 (.int .u32 1) q1
  have q3 := heap_setCell_same _ b 1 _ 76 (.int .i32 0) q2
  have hrd := (((e2.drew).set q1 0 (.int .u32 1)).set q2 1 (.int .i32 0)).rd
  have k3 : ((w1.drew.setCell ⟨b, 0, none⟩ (.int .u32 1)).setCell ⟨b, 1, none⟩ (.int .i32 0)).cell? ⟨b, 3, none⟩ = some (.iface 97 (.pointer (some ⟨c, 0, none⟩))) := (cell_of_row _ _ _ _ _ _ q3).trans rfl
  have hbW : Below w0.heap.size w0 ((w1.drew.setCell ⟨b, 0, none⟩ (.int .u32 1)).setCell ⟨b, 1, none⟩ (.int .i32 0)) :=
    (((HBL.out.trans (((Below.refl w0.heap.size w).setCell (p := ⟨b, 1, none⟩) hBb _).trans e4)).drew).setCell (p := ⟨b, 0, none⟩) hBb _).setCell (p := ⟨b, 1, none⟩) hBb _
  generalize (w1.drew.setCell ⟨b, 0, none⟩ (.int .u32 1)).setCell ⟨b, 1, none⟩ (.int .i32 0) = W at *
  have HR := Lib.hid (rep_any c s hs W hrd)
  have HW := Lib.hid hbW
  clear q1 q2 q3 e1 e2 e3 e4 hrd hbW HD
  have hm : ∀ w : World, (method 272 97 (.pointer (some ⟨c, 0, none⟩)) "Replace").run Try.prog w = .ok (96, .pointer (some ⟨c, 0, none⟩)) w := fun _ => by kernel_rfl
  go_wp2_with fail
  refine HR.out.mono ?_
  rintro e w3 ⟨rfl, hb3⟩
  have HF := Lib.hid (below_step HW.out hb3)
  clear hb3 HR HW
  go_wp2
  go_ret
  exact ⟨rfl, HF.out⟩
theorem quote_any (s : ByteArray) (hs : s.size ≤ 1000) (w : World) :
    Calls Try.prog 11 #[.string s] w fun e w' => e = .returned (.string (tx (quoteL s.data.toList))) ∧ Below w.heap.size w w' := by
  have hbs : ∀ W : World, (Instr.buildSlice 60 8 #[(0, .string ⟨#[42]⟩), (1, .string ⟨#[92, 42]⟩), (2, .string ⟨#[63]⟩), (3, .string ⟨#[92, 63]⟩), (4, .string ⟨#[91]⟩), (5, .string ⟨#[92, 91]⟩), (6, .string ⟨#[92]⟩), (7, .string ⟨#[92, 92]⟩)]).run Try.prog W = .ok (.slice (some ⟨W.heap.size, 0, none⟩) 8 8) (W.alloc (.cells onv.toArray 9)) := fun W => by kernel_rfl
  have hb0 : Below w.heap.size w (w.alloc (.cells onv.toArray 9)) := (Below.refl _ _).alloc (Nat.le_refl _) _
  have HN := Lib.hid (new_replacer w.heap.size (w.alloc (.cells onv.toArray 9)) (fun j u hu => by
    rw [add_plain, cell_of_row _ _ _ _ _ _ (heap_alloc_new w _), List.getElem?_toArray]
    exact hu))
  have HB0 := Lib.hid hb0
  clear hb0
  go_enter Try.func11, Try.ntmps11
  go_wp2_with fail
  refine HN.out.mono ?_
  rintro e w1 ⟨b, v, rfl, hF⟩
  have HR := Lib.hid (replace_any _ _ b v hF s hs)
  clear hF hbs
  go_wp2_with fail
  refine HR.out.mono ?_
  rintro e w2 ⟨rfl, hb2⟩
  have HF := Lib.hid (below_step HB0.out hb2)
  clear hb2 HR
  go_wp2
  go_ret
  exact ⟨rfl, HF.out⟩
theorem match_said (q t : ByteArray) (hq : q.size ≤ 1000) (ht : t.size ≤ 1000) (h : rightB q = true) (b : Bool) (hb : matB q t = b) (w : World) :
    Calls Try.prog 7 #[.string q, .string t] w fun e w' => e = .returned (.tuple #[.bool b, .int .u8 0]) ∧ Below w.heap.size w w' := by
  have hm := match_any q t hq ht w
  unfold codeB at hm
  rw [h, hb] at hm
  exact hm
theorem tx_plus (a b : List UInt8) : tx a ++ tx b = tx (a ++ b) := tx_app a b
theorem sl_take (l : List UInt8) (i : Nat) (x : UInt8) (h : l[i]? = some x) : (l.take (i + 1)).contains 47 = ((l.take i).contains 47 || x == 47) := by
  have e : (x == 47) = ((47 : UInt8) == x) := by rw [Bool.eq_iff_iff, beq_iff_eq, beq_iff_eq]; exact eq_comm
  rw [List.take_add_one, h, e]
  simp only [Option.toList_some, List.contains_append, List.contains_cons, List.contains_nil, Bool.or_false]
set_option maxRecDepth 100000 in
set_option maxHeartbeats 3200000 in
theorem law_quotes (s t : ByteArray) (w : World) : Calls Try.prog 4 #[.string s, .string t] w fun e w' => e = .returned (.bool true) ∧ Below w.heap.size w w' := by
  by_cases h1 : 300 < s.size
  · have hd : decide ((300 : Int) < (s.size : Int)) = true := decide_eq_true (by omega)
    clear h1
    go_enter Try.func4, Try.ntmps4
    go_wp2_with fail
    refine (alive_glob _).mono ?_
    rintro e w1 ⟨rfl, hb1⟩
    go_wp2
    go_ret
    exact ⟨rfl, hb1⟩
  by_cases h2 : 300 < t.size
  · have hd : decide ((300 : Int) < (s.size : Int)) = false := decide_eq_false (by omega)
    have hd2 : decide ((300 : Int) < (t.size : Int)) = true := decide_eq_true (by omega)
    clear h1 h2
    go_enter Try.func4, Try.ntmps4
    go_wp2_with fail
    refine (alive_glob _).mono ?_
    rintro e w1 ⟨rfl, hb1⟩
    go_wp2
    go_ret
    exact ⟨rfl, hb1⟩
  have hd : decide ((300 : Int) < (s.size : Int)) = false := decide_eq_false (by omega)
  have hd2 : decide ((300 : Int) < (t.size : Int)) = false := decide_eq_false (by omega)
  have hls : s.data.toList.length = s.size := data_length s
  have hlt : t.data.toList.length = t.size := data_length t
  have hqs : (tx (quoteL s.data.toList)).size ≤ 600 := by
    rw [tx_size, quote_size]
    have := sg_le s.data.toList
    omega
  have es : s.toList = s.data.toList := Lib.toList_data s
  have et : t.toList = t.data.toList := Lib.toList_data t
  have HQ := Lib.hid (quote_any s (by omega))
  have HQ2 := Lib.hid (quote_ref s (by omega))
  have M1 := Lib.hid (match_said (tx (quoteL s.data.toList)) s (by omega) (by omega) (quote_right _) true (by rw [quote_match]; simp))
  have M2 := Lib.hid (match_said (tx (quoteL s.data.toList)) t (by omega) (by omega) (quote_right _) (s.toList == t.toList) (by rw [quote_match, es, et, Bool.eq_iff_iff]; simp))
  have M3 := Lib.hid (match_said ⟨#[42, 42]⟩ t (by decide) (by omega) (deep_all t).1 true (deep_all t).2)
  obtain ⟨SL, hSL⟩ : ∃ SL, t.data.toList.contains 47 = SL := ⟨_, rfl⟩
  have M4 := Lib.hid (match_said ⟨#[42]⟩ t (by decide) (by omega) (run_all t).1 (!SL) (by rw [← hSL]; exact (run_all t).2))
  have HSL := Lib.hid hSL
  clear hSL
  have M5 := Lib.hid (match_said (tx (quoteL s.data.toList) ++ ⟨#[42, 42]⟩) (s ++ t) (by rw [ByteArray.size_append]; show _ + 2 ≤ _; omega) (by rw [ByteArray.size_append]; omega) (by
    rw [show (⟨#[42, 42]⟩ : ByteArray) = tx [42, 42] from rfl, tx_plus]; exact quote_deep_right _) true (by
    rw [show (⟨#[42, 42]⟩ : ByteArray) = tx [42, 42] from rfl, tx_plus]
    have := quote_deep s.data.toList t.data.toList
    rw [← tx_plus s.data.toList t.data.toList, tx_of, tx_of] at this
    exact this))
  generalize tx (quoteL s.data.toList) = q at *
  generalize hst : (s.toList == t.toList) = st at *
  have HST := Lib.hid hst
  have hz1 : (9223372036854775807 < q.size + 2) = False := eq_false (by omega)
  have hz2 : (9223372036854775807 < s.size + t.size) = False := eq_false (by omega)
  clear h1 hst es et hls
  go_enter Try.func4, Try.ntmps4
  go_wp2_with fail
  refine (alive_glob _).mono ?_
  rintro e w1 ⟨rfl, hb1⟩
  have HB1 := Lib.hid hb1
  clear hb1
  go_wp2_with fail
  refine (HQ.out _).mono ?_
  rintro e w2 ⟨rfl, hb⟩
  have HB2 := Lib.hid (below_step HB1.out hb)
  clear hb HB1
  go_wp2_with fail
  refine (M1.out _).mono ?_
  rintro e w3 ⟨rfl, hb⟩
  have HB3 := Lib.hid (below_step HB2.out hb)
  clear hb HB2
  go_wp2_with fail
  refine (M2.out _).mono ?_
  rintro e w4 ⟨rfl, hb⟩
  have HB4 := Lib.hid (below_step HB3.out hb)
  clear hb HB3
  go_wp2_with fail
  refine (M3.out _).mono ?_
  rintro e w5 ⟨rfl, hb⟩
  have HB5 := Lib.hid (below_step HB4.out hb)
  clear hb HB4
  go_wp2_with fail
  refine (M4.out _).mono ?_
  rintro e w6 ⟨rfl, hb⟩
  have HB6 := Lib.hid (below_step HB5.out hb)
  clear hb HB5
  go_wp2_with fail
  refine (M5.out _).mono ?_
  rintro e w7 ⟨rfl, hb⟩
  have HB7 := Lib.hid (below_step HB6.out hb)
  clear hb HB6
  go_wp2_with fail
  go_loopg [16, 17] t.size (fun gk v16 v17 wr => ∃ i : Nat, i + gk = t.size ∧ v17 = .int .i64 (i : Int) ∧ v16 = .bool ((t.data.toList.take i).contains 47) ∧ w7 = wr)
  case atStart => exact ⟨0, by omega, rfl, rfl, rfl⟩
  case round =>
    obtain ⟨i, hi, rfl, rfl, rfl⟩ := hrel
    cases gk with
    | zero =>
      obtain rfl : i = t.size := by omega
      rw [List.take_of_length_le (by rw [data_length]; exact Nat.le_refl _)]
      rw [HSL.out]
      go_wp2_with fail
      refine (HQ2.out _).mono ?_
      rintro e w8 ⟨rfl, hb⟩
      have HB8 := Lib.hid (below_step HB7.out hb)
      clear hb HB7
      have hst := HST.out
      clear HST HSL
      cases st <;> cases SL
      all_goals
        go_wp2
        go_ret
        exact ⟨rfl, HB8.out⟩
    | succ k =>
      have hlt2 : i < t.size := by omega
      obtain ⟨x, hx⟩ : ∃ x, t.data.toList[i]? = some x := ⟨t.data.toList[i]'(by rw [data_length]; exact hlt2), List.getElem?_eq_getElem _⟩
      have hby : ∀ hh : i < t.size, ((t[i]'hh).toNat) = x.toNat := fun hh => by
        have h1 := List.getElem?_eq_getElem (l := t.data.toList) (i := i) (by rw [data_length]; exact hlt2)
        rw [h1] at hx
        rw [← Option.some.inj hx]
        rfl
      have hT := sl_take _ i x hx
      have h47 : ((x.toNat : Int) == 47) = (x == 47) := u8_eq x 47 (by omega)
      have HT := Lib.hid hT
      generalize (t.data.toList.take i).contains 47 = sl at *
      clear hx hT
      cases sl with
      | true =>
        go_wp2
        go_roundg k
        case measure => omega
        case rel => exact ⟨i + 1, by omega, by go_num, by rw [HT.out]; rfl, rfl⟩
      | false =>
        go_wp2
        go_roundg k
        case measure => omega
        case rel => exact ⟨i + 1, by omega, by go_num, by rw [HT.out]; rfl, rfl⟩
end Go.Proofs.Ytkgldphpkglcmaa.Rp
