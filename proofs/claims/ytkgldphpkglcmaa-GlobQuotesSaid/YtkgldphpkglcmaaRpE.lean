/- (*strings.byteStringReplacer).Replace: the quoted text. -/
import Derived.Test.YtkgldphpkglcmaaRpD
import Derived.Test.YtkgldphpkglcmaaGlZ
import Derived.BigQuiet
import Derived.Deep.QuietTactic
import Derived.Laws.CopyOwn
import Derived.Deep.RegionLaw
import Derived.Deep.CutBlock
import Derived.Deep.DeepCutAuto
import Derived.IntWalk
import Derived.WalkSpells
namespace Go.Proofs.Ytkgldphpkglcmaa.Rp
open Go.RowKit Go.MuLone Gl Go.Proofs.YtkgldphpkglcmaaW.PrintWords Go.Proofs.YtkgldphpkglcmaaW.PrintLast Go.Proofs.YtkgldphpkglcmaaW.PrintMore
set_option linter.unusedVariables false
set_option linter.unusedSimpArgs false
/-- how many signs. -/
def sg (l : List UInt8) : Nat := (l.filter sign).length
theorem quote_size (l : List UInt8) : (quoteL l).length = l.length + sg l := by
  induction l with
  | nil => rfl
  | cons c t ih =>
    simp only [quoteL, sg, List.filter_cons]
    cases hc : sign c with
    | true => simp only [if_true, List.length_cons, ih, sg]; omega
    | false => simp only [List.length_cons, ih, sg, Bool.false_eq_true, if_false]; omega
theorem sg_le (l : List UInt8) : sg l ≤ l.length := List.length_filter_le _ _
theorem quote_id (l : List UInt8) (h : sg l = 0) : quoteL l = l := by
  induction l with
  | nil => rfl
  | cons c t ih =>
    simp only [sg, List.filter_cons] at h
    cases hc : sign c with
    | true => rw [hc] at h; simp at h
    | false =>
      rw [hc] at h
      simp only [Bool.false_eq_true, if_false] at h
      simp only [quoteL, hc, Bool.false_eq_true, if_false]
      rw [ih h]
theorem sg_take (l : List UInt8) (i : Nat) (x : UInt8) (h : l[i]? = some x) : sg (l.take (i + 1)) = sg (l.take i) + if sign x then 1 else 0 := by
  unfold sg
  rw [List.take_add_one, h, List.filter_append, List.length_append]
  cases hs : sign x <;> simp [hs]
/-- of the first j bytes that are looked for. -/
def sgTo (l : List UInt8) (j : Nat) : Nat := ((os4.take j).map fun x => l.count x).sum
theorem sgTo_all (l : List UInt8) : sgTo l 4 = sg l := by
  induction l with
  | nil => rfl
  | cons c t ih =>
    simp only [sgTo, os4, List.take, List.map_cons, List.map_nil, List.sum_cons, List.sum_nil] at ih ⊢
    simp only [sg, List.filter_cons, List.count_cons]
    by_cases h1 : c = 92
    · subst h1; simp [sign] ; simp [sg, sign] at ih; omega
    by_cases h2 : c = 91
    · subst h2; simp [sign] ; simp [sg, sign] at ih; omega
    by_cases h3 : c = 63
    · subst h3; simp [sign] ; simp [sg, sign] at ih; omega
    by_cases h4 : c = 42
    · subst h4; simp [sign] ; simp [sg, sign] at ih; omega
    have hs : sign c = false := by simp [sign, h1, h2, h3, h4]
    rw [hs]
    simp only [beq_iff_eq, h1, h2, h3, h4, if_false, Bool.false_eq_true, Nat.add_zero]
    exact ih
theorem sgTo_succ (l : List UInt8) (j : Nat) (x : UInt8) (h : os4[j]? = some x) : sgTo l (j + 1) = sgTo l j + l.count x := by
  unfold sgTo
  rw [os_take j x h, List.map_append, List.sum_append]
  simp
theorem sgTo_le (l : List UInt8) (j : Nat) : sgTo l j ≤ l.length := by
  have h1 : sgTo l j ≤ sgTo l 4 := by
    by_cases hj : j ≤ 4
    · have : j = 0 ∨ j = 1 ∨ j = 2 ∨ j = 3 ∨ j = 4 := by omega
      rcases this with rfl | rfl | rfl | rfl | rfl <;> simp [sgTo, os4] <;> omega
    · unfold sgTo
      rw [List.take_of_length_le (by simp [os4]; omega)]
      exact Nat.le_refl _
  rw [sgTo_all] at h1
  exact Nat.le_trans h1 (sg_le l)
/-- the bytes made so far, in a row of N. -/
def bu (L : List UInt8) (N : Nat) : List Value := L.map (fun b => Value.int .u8 (b.toNat : Int)) ++ List.replicate (N - L.length) (.int .u8 0)
theorem bu_len (L : List UInt8) (N : Nat) (h : L.length ≤ N) : (bu L N).length = N := by simp [bu]; omega
theorem bu_made (N : Nat) : madeCells #[.int .u8 0] N = (bu [] N).toArray := by
  apply Array.ext
  · simp [madeCells, bu]
  · intro i h1 h2
    simp [madeCells, bu, Nat.mod_one]
theorem bu_at (L : List UInt8) (N : Nat) (h : L.length < N) : (bu L N)[L.length]? = some (.int .u8 0) := by
  unfold bu
  rw [List.getElem?_append_right (by simp), List.getElem?_replicate, if_pos (by simp; omega)]
theorem bu_set (L : List UInt8) (N : Nat) (c : UInt8) (h : L.length < N) : (bu L N).toArray.setIfInBounds L.length (.int .u8 (c.toNat : Int)) = (bu (L ++ [c]) N).toArray := by
  rw [List.setIfInBounds_toArray]
  congr 1
  unfold bu
  rw [List.set_append_right _ _ (by simp)]
  obtain ⟨q, hq⟩ : ∃ q, N - L.length = q + 1 := ⟨N - L.length - 1, by omega⟩
  have h2 : N - (L ++ [c]).length = q := by simp; omega
  rw [hq, h2]
  simp [List.replicate_succ]
theorem bu_splice (L : List UInt8) (N : Nat) (a c : UInt8) (h : L.length + 2 ≤ N) : splice (bu L N) L.length [.int .u8 (a.toNat : Int), .int .u8 (c.toNat : Int)] = bu (L ++ [a, c]) N := by
  unfold splice bu
  obtain ⟨q, hq⟩ : ∃ q, N - L.length = q + 2 := ⟨N - L.length - 2, by omega⟩
  have h2 : N - (L ++ [a, c]).length = q := by simp; omega
  rw [hq, h2]
  have e1 : (L.map (fun b => Value.int .u8 (b.toNat : Int)) ++ List.replicate (q + 2) (Value.int .u8 0)).take L.length = L.map (fun b => Value.int .u8 (b.toNat : Int)) := by
    rw [List.take_append_of_le_length (by simp), List.take_of_length_le (by simp)]
  have e2 : (L.map (fun b => Value.int .u8 (b.toNat : Int)) ++ List.replicate (q + 2) (Value.int .u8 0)).drop (L.length + [Value.int .u8 (a.toNat : Int), .int .u8 (c.toNat : Int)].length) = List.replicate q (Value.int .u8 0) := by
    rw [List.drop_append]
    simp
  rw [e1, e2]
  simp
theorem quote_take (l : List UInt8) (i : Nat) (x : UInt8) (h : l[i]? = some x) : quoteL (l.take (i + 1)) = quoteL (l.take i) ++ if sign x then [92, x] else [x] := by
  rw [List.take_add_one, h]
  have app : ∀ a b : List UInt8, quoteL (a ++ b) = quoteL a ++ quoteL b := by
    intro a b
    induction a with
    | nil => rfl
    | cons c t ih => simp only [List.cons_append, quoteL, ih]; split <;> rfl
  rw [app]
  cases hs : sign x <;> simp [quoteL, hs]
theorem quote_take_le (l : List UInt8) (i : Nat) : (quoteL (l.take i)).length ≤ (quoteL l).length := by
  rw [quote_size, quote_size]
  have h1 : sg (l.take i) ≤ sg l := by
    unfold sg
    exact (List.Sublist.filter _ (List.take_sublist i l)).length_le
  have h2 : (l.take i).length ≤ l.length := (List.take_sublist i l).length_le
  omega
theorem info5 : (Try.prog.info? 5).map (fun i => (i.zero, i.size, i.bytes)) = some (some (.int .u8 0), 1, 1) := by kernel_rfl
theorem size5 : (Try.prog.info? 5).map (·.size) = some 1 := by kernel_rfl
/-- the Replacer's block, as it is read. -/
structure Rd (W : World) (c : Nat) : Prop where
  non : ∀ x : UInt8, sign x = false → W.cell? ⟨c, x.toNat, none⟩ = some (.slice none 0 0)
  som : ∀ x : UInt8, sign x = true → ∃ g cap, W.cell? ⟨c, x.toNat, none⟩ = some (.slice (some ⟨g, 0, none⟩) 2 cap) ∧ W.cell? ⟨g, 0, none⟩ = some (.int .u8 92) ∧ W.cell? ⟨g, 1, none⟩ = some (.int .u8 (x.toNat : Int))
  tr : ∃ g cap, W.cell? ⟨c, 256, none⟩ = some (.slice (some ⟨g, 0, none⟩) 4 cap) ∧ ∀ j x, os4[j]? = some x → W.cell? ⟨g, j, none⟩ = some (.string ⟨#[x]⟩)
theorem sign_mem (x : UInt8) : sign x = true ↔ x ∈ os4.take 4 := by
  simp only [sign, os4, List.take, Bool.or_eq_true, beq_iff_eq, List.mem_cons, List.not_mem_nil, or_false]
  constructor
  · rintro (((h | h) | h) | h) <;> simp [h]
  · rintro (h | h | h | h) <;> simp [h]
theorem Rp1.rd {base : Nat} {W : World} {c : Nat} {cs : Array Value} {v : Value} (h : Rp1 base W c cs v) : Rd W c := by
  refine ⟨fun x hx => ?_, fun x hx => ?_, ?_⟩
  · refine (cell_of_row _ _ _ _ _ _ h.blk).trans (h.non _ x.toNat_lt fun y hy e => ?_)
    have := (sign_mem y).2 hy
    rw [← UInt8.toNat_inj.1 e, hx] at this
    cases this
  · obtain ⟨g, cap, bs, fr, e1, e2, e3, e4⟩ := h.som x ((sign_mem x).1 hx)
    exact ⟨g, cap, (cell_of_row _ _ _ _ _ _ h.blk).trans e1, (cell_of_row _ _ _ _ _ _ e2).trans e3, (cell_of_row _ _ _ _ _ _ e2).trans e4⟩
  · obtain ⟨g, cap, hv⟩ : ∃ g cap, v = .slice (some ⟨g, 0, none⟩) 4 cap := by
      rcases h.own.2 with ⟨_, h0⟩ | ⟨g, cap, _, e, _⟩
      · omega
      · exact ⟨g, cap, e⟩
    refine ⟨g, cap, (cell_of_row _ _ _ _ _ _ h.blk).trans (h.v256.trans (by rw [hv])), fun j x hx => ?_⟩
    have h2 := h.own.cells (g := g) (by rw [hv]; rfl) j (.string ⟨#[x]⟩) (by
      have : (os4.take 4) = os4 := rfl
      rw [this, List.getElem?_map, hx]; rfl)
    rw [add_plain] at h2
    simpa using h2
theorem Rd.below {W W' : World} {c : Nat} (h : Rd W c) (hb : Below W.heap.size W W') : Rd W' c :=
  ⟨fun x hx => (hb.cell (World.block_lt_of_cell? W _ (h.non x hx))).trans (h.non x hx),
   fun x hx => by
    obtain ⟨g, cap, e1, e2, e3⟩ := h.som x hx
    exact ⟨g, cap, (hb.cell (World.block_lt_of_cell? W _ e1)).trans e1, (hb.cell (World.block_lt_of_cell? W _ e2)).trans e2, (hb.cell (World.block_lt_of_cell? W _ e3)).trans e3⟩,
   by
    obtain ⟨g, cap, e1, e2⟩ := h.tr
    exact ⟨g, cap, (hb.cell (World.block_lt_of_cell? W _ e1)).trans e1, fun j x hx => (hb.cell (World.block_lt_of_cell? W _ (e2 j x hx))).trans (e2 j x hx)⟩⟩
set_option maxRecDepth 100000 in
set_option maxHeartbeats 3200000 in
theorem rep_any (c : Nat) (s : ByteArray) (hs : s.size ≤ 1000) (w : World) (h : Rd w c) :
    Calls Try.prog 96 #[.pointer (some ⟨c, 0, none⟩), .string s] w fun e w' => e = .returned (.string (tx (quoteL s.data.toList))) ∧ Below w.heap.size w w' := by
  obtain ⟨g, cap, t1, t2⟩ := h.tr
  have HR := Lib.hid h
  clear h
  go_enter Try.func96, Try.ntmps96
  go_upto_if 26 with (fail)
  go_cut [5, 6] (fun v5 v6 wc => v5 = .int .i64 ((s.size + sg s.data.toList : Nat) : Int) ∧ v6 = .bool (sg s.data.toList != 0) ∧ Drawn0 w wc)
  case first =>
    by_cases h32 : (32 : Int) ≤ (s.size : Int)
    · have hd : decide ((32 : Int) ≤ (s.size : Int)) = true := decide_eq_true h32
      rw [hd]
      clear h32
      have HT := Lib.hid t2
      clear t2
      go_wp2
      go_loopg [5, 6, 32] 4 (fun gk v5 v6 v32 wr => ∃ j : Nat, j + gk = 4 ∧ v32 = .int .i64 (j : Int) ∧ v5 = .int .i64 ((s.size + sgTo s.data.toList j : Nat) : Int) ∧ v6 = .bool (sgTo s.data.toList j != 0) ∧ Drawn0 w wr)
      case atStart => exact ⟨0, rfl, rfl, rfl, rfl, Drawn0.refl w⟩
      case round =>
        obtain ⟨j, hj, rfl, rfl, rfl, ⟨nd, rfl⟩⟩ := hrel
        cases gk with
        | zero =>
          obtain rfl : j = 4 := by omega
          rw [sgTo_all]
          go_wp2
          go_meet
          case rel => exact ⟨by simp, rfl, ⟨nd, rfl⟩⟩
        | succ k =>
          have hj4 : j < 4 := by omega
          obtain ⟨x, hx⟩ : ∃ x, os4[j]? = some x := ⟨os4[j]'(by simpa [os4] using hj4), List.getElem?_eq_getElem _⟩
          have kt : w.cell? ⟨g, j, none⟩ = some (.string ⟨#[x]⟩) := HT.out j x hx
          have hS := sgTo_succ s.data.toList j x hx
          have hle := sgTo_le s.data.toList (j + 1)
          have hlen : s.data.toList.length = s.size := data_length s
          obtain ⟨n, hn⟩ : ∃ n, s.data.toList.count x = n := ⟨_, rfl⟩
          obtain ⟨m, hm⟩ : ∃ m, sgTo s.data.toList j = m := ⟨_, rfl⟩
          rw [hn, hm] at hS
          rw [hS, hlen] at hle
          rw [hm]
          obtain ⟨gx, capx, e1, _, _⟩ := HR.out.som x ((sign_mem x).2 (by
            have := List.mem_of_getElem? hx
            exact this))
          have hx256 := x.toNat_lt
          have HCt := Lib.hid (Try.strings_Count_one s x)
          have hcn : (Lib.countByte s.data.toList x : Int) = (n : Int) := by rw [← hn]; rfl
          rw [hcn] at HCt
          have HS := Lib.hid hS
          have hby : ∀ hh : 0 < (⟨#[x]⟩ : ByteArray).size, ((⟨#[x]⟩ : ByteArray)[0]'hh).toNat = x.toNat := fun _ => rfl
          have hb1 : (0 : Int) ≤ (x.toNat : Int) := by omega
          have hb2 : (x.toNat : Int) < 256 := by omega
          clear hcn hS hn hm hx hlen
          go_wp2_with fail
          refine (HCt.out _).mono ?_
          rintro e w' ⟨rfl, rfl⟩
          by_cases hz : n = 0
          · subst hz
            have hq : ((0 : Int) != 0) = false := rfl
            go_wp2
            go_roundg k
            case measure => omega
            case rel => exact ⟨j + 1, by omega, by go_num, by rw [HS.out]; simp, by rw [HS.out]; simp, ⟨nd, rfl⟩⟩
          · have hq : ((n : Int) != 0) = true := by simp; omega
            have hw1 : IntKind.i64.wrap ((n : Int) * 1) = (n : Int) := by rw [Int.mul_one]; exact IntWalk.i64_in _ (by omega)
            have hw2 : IntKind.i64.wrap ((s.size : Int) + (m : Int) + (n : Int)) = (s.size : Int) + (m : Int) + (n : Int) := IntWalk.i64_in _ (by omega)
            go_wp2_with fail
            go_quiet (fail)
            go_wp2
            go_roundg k
            case measure => omega
            case rel => exact ⟨j + 1, by omega, by go_num, by rw [HS.out]; simp; omega, by rw [HS.out]; simp; omega, (by first | exact ⟨⟨_, rfl⟩⟩ | exact Drawn0.step ⟨⟨nd, rfl⟩⟩ _)⟩
    · have hd : decide ((32 : Int) ≤ (s.size : Int)) = false := decide_eq_false h32
      rw [hd]
      clear h32 t1 t2
      go_wp2
      go_loopg [5, 6, 10] s.size (fun gk v5 v6 v10 wr => ∃ i : Nat, i + gk = s.size ∧ v10 = .int .i64 (i : Int) ∧ v5 = .int .i64 ((s.size + sg (s.data.toList.take i) : Nat) : Int) ∧ v6 = .bool (sg (s.data.toList.take i) != 0) ∧ w = wr)
      case atStart => exact ⟨0, by omega, rfl, rfl, rfl, rfl⟩
      case round =>
        obtain ⟨i, hi, rfl, rfl, rfl, rfl⟩ := hrel
        cases gk with
        | zero =>
          obtain rfl : i = s.size := by omega
          rw [List.take_of_length_le (by rw [data_length]; exact Nat.le_refl _)]
          go_wp2
          go_meet
          case rel => exact ⟨by simp, rfl, Drawn0.refl w⟩
        | succ k =>
          have hlt : i < s.size := by omega
          obtain ⟨x, hx⟩ : ∃ x, s.data.toList[i]? = some x := ⟨s.data.toList[i]'(by rw [data_length]; exact hlt), List.getElem?_eq_getElem _⟩
          have hby : ∀ hh : i < s.size, ((s[i]'hh).toNat) = x.toNat := fun hh => by
            have h1 := List.getElem?_eq_getElem (l := s.data.toList) (i := i) (by rw [data_length]; exact hlt)
            rw [h1] at hx
            rw [← Option.some.inj hx]
            rfl
          have hT := sg_take s.data.toList i x hx
          have hle := sg_le (s.data.toList.take i)
          have hlen : (s.data.toList.take i).length ≤ i := List.length_take_le _ _
          have hx256 := x.toNat_lt
          have hb1 : (0 : Int) ≤ (x.toNat : Int) := by omega
          have hb2 : (x.toNat : Int) < 256 := by omega
          cases hsx : sign x with
          | true =>
            obtain ⟨gx, capx, e1, _, _⟩ := HR.out.som x hsx
            have hne : (binOp .neq 93 (.slice (some ⟨gx, 0, none⟩) 2 capx) (.slice none 0 0)).run Try.prog w = .ok (.bool true) w := run_neq_slice_nil_any w 93 5 (some ⟨gx, 0, none⟩) 2 capx 0 0 Try.underlying93
            rw [hsx] at hT
            have HT := Lib.hid hT
            generalize sg (s.data.toList.take i) = m at *
            clear hx hT hsx
            go_wp2
            go_roundg k
            case measure => omega
            case rel => exact ⟨i + 1, by omega, by go_num, by rw [HT.out]; simp; omega, by rw [HT.out]; simp, rfl⟩
          | false =>
            have e1 := HR.out.non x hsx
            have hne : (binOp .neq 93 (.slice none 0 0) (.slice none 0 0)).run Try.prog w = .ok (.bool false) w := run_neq_slice_nil_any w 93 5 none 0 0 0 0 Try.underlying93
            rw [hsx] at hT
            have HT := Lib.hid hT
            generalize sg (s.data.toList.take i) = m at *
            clear hx hT hsx
            go_wp2
            go_roundg k
            case measure => omega
            case rel => exact ⟨i + 1, by omega, by go_num, by rw [HT.out]; simp, by rw [HT.out]; simp, rfl⟩

  case rest =>
    obtain ⟨rfl, rfl, ⟨nd, rfl⟩⟩ := hcut
    have hsg := sg_le s.data.toList
    have hqs := quote_size s.data.toList
    have hlen : s.data.toList.length = s.size := data_length s
    rw [hlen] at hsg hqs
    by_cases hz : sg s.data.toList = 0
    · have hq := quote_id _ hz
      have hb : (sg s.data.toList != 0) = false := by rw [hz]; rfl
      have HQ := Lib.hid (show tx (quoteL s.data.toList) = s by rw [hq, tx_of])
      rw [hb]
      clear hq hz hqs hsg t1 t2 hlen hb
      go_wp2
      go_ret
      exact ⟨by rw [HQ.out]; rfl, Drawn0.below ⟨⟨nd, rfl⟩⟩⟩
    · have hb : (sg s.data.toList != 0) = true := by simpa using hz
      rw [hb]
      obtain ⟨N, hN⟩ : ∃ N, s.size + sg s.data.toList = N := ⟨_, rfl⟩
      rw [hN] at hqs
      rw [hN]
      have hN2 : N ≤ 2000 := by omega
      have hmk := fun W => run_make_row' (P := Try.prog) 93 5 (.int .u8 0) 1 Try.underlying93 info5 rfl .i64 .i64 N (by omega) (by omega) W
      rw [bu_made] at hmk
      have HR2 := Lib.hid (HR.out.below (Drawn0.below ⟨⟨nd, rfl⟩⟩ : Below w.heap.size w (w.drewN nd)))
      have HB2 := Lib.hid (Drawn0.below ⟨⟨nd, rfl⟩⟩ : Below w.heap.size w (w.drewN nd))
      obtain ⟨W, hW⟩ : ∃ W, w.drewN nd = W := ⟨_, rfl⟩
      rw [hW] at HR2 HB2 ⊢
      clear hW hz hb hN hsg t1 t2 HR hlen
      have HN := Lib.hid hqs
      clear hqs
      have HM0 := Lib.hid (show (W.alloc (.cells (bu [] N).toArray 5)).heap[W.heap.size]? = some (.cells (bu [] N).toArray 5 (0, 0)) from heap_alloc_new W _)
      have HBa := Lib.hid ((Below.refl W.heap.size W).alloc (Nat.le_refl _) (.cells (bu [] N).toArray 5))
      go_wp2
      clear hmk
      go_loopg [13, 14] s.size (fun gk v13 v14 wr => ∃ i : Nat, i + gk = s.size ∧ v14 = .int .i64 (i : Int) ∧ v13 = .int .i64 ((quoteL (s.data.toList.take i)).length : Int) ∧ Aside0 (wr.heap[W.heap.size]? = some (.cells (bu (quoteL (s.data.toList.take i)) N).toArray 5 (0, 0))) ∧ Aside0 (Below W.heap.size W wr))
      case atStart => exact ⟨0, by omega, rfl, rfl, ⟨HM0.out⟩, ⟨HBa.out⟩⟩
      case round =>
        clear HM0 HBa
        obtain ⟨i, hi, rfl, rfl, HM, HB⟩ := hrel
        cases gk with
        | zero =>
          obtain rfl : i = s.size := by omega
          rw [List.take_of_length_le (by rw [data_length]; exact Nat.le_refl _)] at HM ⊢
          have hcv : (convert 93 9 (.slice (some ⟨W.heap.size, 0, none⟩) N N)).run Try.prog wr = .ok (.string (tx (quoteL s.data.toList))) wr := by
            have h1 := run_convert_bytes_arg wr 93 5 Try.underlying93 Try.underlying5 W.heap.size 0 N N ((quoteL s.data.toList).map fun b => (b.toNat : Int)) (by rw [List.length_map]; exact HN.out) (fun q hq => by
              rw [cell_of_row _ _ _ _ _ _ HM.out, List.getElem?_toArray, Nat.zero_add]
              unfold bu
              rw [List.getElem?_append_left (by rw [List.length_map, HN.out]; exact hq), List.getElem?_map, List.getD_eq_getElem?_getD, List.getElem?_map, List.getElem?_eq_getElem (by rw [HN.out]; exact hq)]
              rfl) 9 Try.underlying9
            rw [h1]
            congr 2
            unfold strOfNums tx
            rw [List.map_map]
            congr 2
            exact (List.map_congr_left (fun b _ => by simp)).trans (List.map_id _)
          go_wp2
          go_ret
          exact ⟨rfl, below_step HB2.out HB.out⟩
        | succ k =>
          have hlt : i < s.size := by omega
          obtain ⟨x, hx⟩ : ∃ x, s.data.toList[i]? = some x := ⟨s.data.toList[i]'(by rw [data_length]; exact hlt), List.getElem?_eq_getElem _⟩
          have hby : ∀ hh : i < s.size, ((s[i]'hh).toNat) = x.toNat := fun hh => by
            have h1 := List.getElem?_eq_getElem (l := s.data.toList) (i := i) (by rw [data_length]; exact hlt)
            rw [h1] at hx
            rw [← Option.some.inj hx]
            rfl
          have hT := quote_take s.data.toList i x hx
          have hle := quote_take_le s.data.toList (i + 1)
          rw [HN.out, hT] at hle
          have hx256 := x.toNat_lt
          have hb1 : (0 : Int) ≤ (x.toNat : Int) := by omega
          have hb2 : (x.toNat : Int) < 256 := by omega
          have HRw := HR2.out.below HB.out
          obtain ⟨L, hL⟩ : ∃ L, quoteL (s.data.toList.take i) = L := ⟨_, rfl⟩
          rw [hL] at hT hle HM ⊢
          cases hsx : sign x with
          | true =>
            obtain ⟨gx, capx, e1, e2, e3⟩ := HRw.som x hsx
            rw [hsx] at hT hle
            simp at hle
            have hne : (binOp .neq 93 (.slice (some ⟨gx, 0, none⟩) 2 capx) (.slice none 0 0)).run Try.prog wr = .ok (.bool true) wr := run_neq_slice_nil_any wr 93 5 (some ⟨gx, 0, none⟩) 2 capx 0 0 Try.underlying93
            have HT := Lib.hid hT
            have hj1 : (L.length : Int) ≤ (N : Int) := by omega
            have hj2 : L.length < N := by omega
            have hj3 : ¬ N = L.length := by omega
            have hsrc : ∀ (q : Nat) (u : Value), ([.int .u8 ((92 : UInt8).toNat : Int), .int .u8 (x.toNat : Int)] : List Value)[q]? = some u → wr.drew.cell? ((⟨gx, 0, none⟩ : Addr).add q) = some u := by
              intro q u hu
              have hq : q = 0 ∨ q = 1 := by
                have := (List.getElem?_eq_some_iff.1 hu).1
                simp at this
                omega
              rcases hq with rfl | rfl
              · exact e2.trans hu
              · exact e3.trans hu
            clear hx hT hsx HRw
            go_wp2_with fail
            clear hne
            go_region_law (refine step_copy_splice rfl (.tmp 105) (.tmp 111) 93 93 rfl 5 Try.underlying93 size5 _ _ _ _ _ _ (by rfl) (by rfl) W.heap.size L.length (bu L N) 5 HM.out [.int .u8 ((92 : UInt8).toNat : Int), .int .u8 (x.toNat : Int)] (by show 2 = min 2 (N - L.length); omega) (fun _ => ⟨rfl, _, rfl, hsrc⟩) (by rw [bu_len L N (by omega)]; simpa using hle) (by simp [Value.oneCell']) W.heap.size W HB.out.drew (Nat.le_refl _) ?_; intro w4 hg4 hb4)
            have HM4 := Lib.hid hg4.out
            have HB4 := Lib.hid hb4
            clear hg4 hb4 hsrc e1 e2 e3
            have hw1 : IntKind.i64.wrap ((L.length : Int) + 2) = (L.length : Int) + 2 := IntWalk.i64_in _ (by omega)
            go_wp2
            go_roundg k
            case measure => omega
            case rel => exact ⟨i + 1, by omega, by go_num, by rw [HT.out]; simp, ⟨by rw [HT.out]; exact HM4.out.trans (by rw [bu_splice L N 92 x (by omega)]; rfl)⟩, ⟨HB4.out⟩⟩
          | false =>
            have e1 := HRw.non x hsx
            have hne : (binOp .neq 93 (.slice none 0 0) (.slice none 0 0)).run Try.prog wr = .ok (.bool false) wr := run_neq_slice_nil_any wr 93 5 none 0 0 0 0 Try.underlying93
            rw [hsx] at hT hle
            simp at hle
            have HT := Lib.hid hT
            have k1 : wr.cell? ⟨W.heap.size, L.length, none⟩ = some (.int .u8 0) := (cell_of_row _ _ _ _ _ _ HM.out).trans (by rw [List.getElem?_toArray]; exact bu_at L N (by omega))
            have k2 : wr.frozen? ⟨W.heap.size, L.length, none⟩ = false := frozen_of_row _ _ _ _ _ HM.out
            have HM2 := Lib.hid ((heap_setCell_same wr W.heap.size L.length _ 5 (.int .u8 (x.toNat : Int)) HM.out).trans (by rw [bu_set L N x (by omega)]))
            have HB2' := Lib.hid (HB.out.setCell (p := ⟨W.heap.size, L.length, none⟩) (Nat.le_refl _) (.int .u8 (x.toNat : Int)))
            have hj1 : (L.length : Int) < (N : Int) := by omega
            clear hx hT hsx HRw
            go_wp2
            go_roundg k
            case measure => omega
            case rel => exact ⟨i + 1, by omega, by go_num, by rw [HT.out]; simp, ⟨by rw [HT.out]; exact HM2.out⟩, ⟨HB2'.out⟩⟩
end Go.Proofs.Ytkgldphpkglcmaa.Rp
