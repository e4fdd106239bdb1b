/- glob's matches: whether pieces match a text. -/
import Derived.Test.YtkgldphpkglcmaaGlG
namespace Go.Proofs.Ytkgldphpkglcmaa.Gl
open Go.RowKit Go.Proofs.YtkgldphpkglcmaaW.PrintWords Go.Proofs.YtkgldphpkglcmaaW.PrintLast Go.Proofs.YtkgldphpkglcmaaW.PrintMore
set_option linter.unusedSimpArgs false
set_option linter.unusedVariables false
/-- a slice of pieces that is read. -/
def Lv (w : World) (A : Option Addr) (ps : List Pc) : Prop :=
  (∀ x ∈ ps, x.2.length = 256) ∧ (0 < ps.length → ∃ bl, A = some ⟨bl, 0, none⟩ ∧ Lp w bl ps ∧ ∃ cells, w.heap[bl]? = some (.cells cells 53 (0, 0)))
theorem Lv.keep {w w1 : World} {A : Option Addr} {ps : List Pc} (h : Lv w A ps) (hk : ∀ k, k < w.heap.size → (∀ M, ¬ Bb w k M) → w1.heap[k]? = w.heap[k]?) : Lv w1 A ps := by
  refine ⟨h.1, fun hp => ?_⟩
  obtain ⟨bl, e, hl, cells, hc⟩ := h.2 hp
  have hlt : bl < w.heap.size := (Array.getElem?_eq_some_iff.1 hc).1
  have hb := hk bl hlt (fun M hM => by
    unfold Bb at hM
    rw [hc] at hM
    injection hM with hM
    injection hM with _ ht
    exact absurd ht (by decide))
  exact ⟨bl, e, ⟨fun k x hx j u hu => (World.cell?_of_block hb).trans (hl.at_ k x hx j u hu), hl.len⟩, cells, hb.trans hc⟩
theorem Lv.below {w w1 : World} {A : Option Addr} {ps : List Pc} (h : Lv w A ps) (hb : Below w.heap.size w w1) : Lv w1 A ps := h.keep fun k hk _ => hb.block k hk
theorem Lv.of_own {w : World} {B : Nat} {v : Value} {ps : List Pc} (h : w.ownsRow B 53 257 v ps.length (rowOf ps)) (hl : ∀ x ∈ ps, x.2.length = 256) : ∃ A cap, v = .slice A ps.length cap ∧ Lv w A ps := by
  obtain ⟨A, cap, rfl⟩ := own_slice h
  refine ⟨A, cap, rfl, hl, fun hp => ?_⟩
  obtain ⟨g, cap2, e, _, _⟩ := h.form hp
  injection e with e1 e2 e3
  subst e1
  obtain ⟨cells, hc⟩ := own_typed h g rfl
  refine ⟨g, rfl, ⟨fun k x hx j u hu => ?_, hl⟩, cells, hc⟩
  have hcell := h.cells (g := g) rfl (k * 257 + j) u ?_
  · rw [add_plain] at hcell
    exact hcell
  · have key : ∀ (ps : List Pc), (∀ x ∈ ps, x.2.length = 256) → ∀ k x, ps[k]? = some x → ∀ j u, (pcs x)[j]? = some u → (rowOf ps)[k * 257 + j]? = some u := by
      intro ps
      induction ps with
      | nil => intro _ k x hx; simp at hx
      | cons y ys ih =>
        intro hl k x hx j u hu
        have hy : (pcs y).length = 257 := pcs_len y (hl y List.mem_cons_self)
        have hj : j < 257 := by
          have hxm : x ∈ y :: ys := List.mem_of_getElem? hx
          have h1 := (List.getElem?_eq_some_iff.1 hu).1
          rw [pcs_len x (hl x hxm)] at h1
          exact h1
        show (pcs y ++ rowOf ys)[k * 257 + j]? = some u
        cases k with
        | zero =>
          simp at hx
          subst hx
          rw [Nat.zero_mul, Nat.zero_add, List.getElem?_append_left (by omega)]
          exact hu
        | succ k =>
          rw [List.getElem?_append_right (by omega), hy, show (k + 1) * 257 + j - 257 = k * 257 + j from by omega]
          exact ih (fun x hx => hl x (List.mem_cons_of_mem _ hx)) k x (by simpa using hx) j u hu
    exact key ps hl k x hx j u hu
/-- skip, over whatever slice of pieces. -/
theorem skip_own (w : World) (A : Option Addr) (cap m : Nat) (ps : List Pc) (M : List Bool) (hps : ps.length ≤ 1000) (hM : M.length = ps.length + 1) (hl : Lv w A ps) (hb : Bb w m M) :
    Calls Try.prog 25 #[.slice A ps.length cap, .slice (some ⟨m, 0, none⟩) (ps.length + 1) (ps.length + 1)] w fun e w' => e = .returned (.tuple #[]) ∧ Bb w' m (skipTo ps M ps.length) ∧ w.grownBy w' (some m) := by
  rcases Nat.eq_zero_or_pos ps.length with h0 | h0
  · rw [h0]
    have hb2 : Bb w m (skipTo ps M 0) := hb
    have HB := Lib.hid hb2
    clear hb2 hb hM hps hl h0
    go_enter Try.func25, Try.ntmps25
    go_wp2
    go_loopg [5, 8] 0 (fun gk v5 v8 wr => v8 = .int .i64 0 ∧ gk = 0 ∧ w = wr)
    case atStart => exact ⟨rfl, rfl, rfl⟩
    case round =>
      obtain ⟨rfl, rfl, rfl⟩ := hrel
      go_wp2
      go_end0
      exact ⟨rfl, HB.out, World.grownBy.refl w _⟩
  · obtain ⟨bl, rfl, hlp, cells, hc⟩ := hl.2 h0
    refine skip_any w bl cap m ps M h0 hps hM hlp hb ?_ (Array.getElem?_eq_some_iff.1 hc).1
    rintro rfl
    unfold Bb at hb
    rw [hc] at hb
    injection hb with hb
    injection hb with _ ht
    exact absurd ht (by decide)
def nextTo (ps : List Pc) (M : List Bool) (c : UInt8) : Nat → List Bool
  | 0 => List.replicate (ps.length + 1) false
  | k + 1 =>
    let N := nextTo ps M c k
    let x := ps.getD k (0, [])
    if M.getD k false = false then N
    else if x.1 = 0 then N.set (k + 1) (N.getD (k + 1) false || x.2.getD c.toNat false)
    else if x.1 = 2 ∨ c ≠ 47 then N.set k true else N
theorem nextTo_len (ps : List Pc) (M : List Bool) (c : UInt8) (k : Nat) : (nextTo ps M c k).length = ps.length + 1 := by
  induction k with
  | zero => simp [nextTo]
  | succ k ih =>
    simp only [nextTo]
    repeat' split
    all_goals simp [ih]
def mt (ps : List Pc) (s : List UInt8) : Nat → List Bool
  | 0 => skipTo ps (true :: List.replicate ps.length false) ps.length
  | i + 1 => skipTo ps (nextTo ps (mt ps s i) (s.getD i 0) ps.length) ps.length
theorem mt_len (ps : List Pc) (s : List UInt8) (i : Nat) : (mt ps s i).length = ps.length + 1 := by
  cases i with
  | zero => simp only [mt]; rw [skipTo_len]; simp
  | succ i => simp only [mt]; rw [skipTo_len, nextTo_len]
def matchB (ps : List Pc) (s : List UInt8) : Bool := (mt ps s s.length).getD ps.length false
theorem made_b (W : World) (n : Nat) : Bb (W.alloc (.cells (madeCells #[.bool false] n) 4)) W.heap.size (List.replicate n false) := by
  unfold Bb
  rw [heap_alloc_new]
  congr 2
  apply Array.ext
  · simp [madeCells]
  · intro i h1 h2
    simp [madeCells, Nat.mod_one]
/-- the cells of a row of bools; of n that are false; of n behind one that is true. -/
def bc (M : List Bool) : Array Value := (M.map Value.bool).toArray
def bz (n : Nat) : Array Value := bc (List.replicate n false)
def bo (n : Nat) : Array Value := bc (true :: List.replicate n false)
theorem made_bz (n : Nat) : madeCells #[.bool false] n = bz n := by
  apply Array.ext
  · simp [madeCells, bz, bc]
  · intro i h1 h2
    simp [madeCells, bz, bc, Nat.mod_one]
theorem bz_zero (n : Nat) : (bz (n + 1))[0]? = some (.bool false) := by simp [bz, bc, List.replicate_succ]
theorem bz_set (n : Nat) : (bz (n + 1)).setIfInBounds 0 (.bool true) = bo n := by simp [bz, bo, bc, List.replicate_succ]
theorem Bb.kept {w w1 : World} {m m2 : Nat} {M : List Bool} (h : Bb w m M) (hg : w.grownBy w1 (some m2)) (hne : m ≠ m2) : Bb w1 m M := (hg.block m h.lt (fun e => hne (by injection e))).trans h
theorem Bb.ne {w : World} {m H : Nat} {M : List Bool} {x : Pc} (h : Bb w m M) (hP : Pb w H x) : m ≠ H := by
  rintro rfl
  unfold Bb at h
  unfold Pb at hP
  rw [h] at hP
  injection hP with hP
  injection hP with _ ht
  exact absurd ht (by decide)
set_option maxRecDepth 100000 in
set_option maxHeartbeats 3200000 in
theorem matches_any (w : World) (A : Option Addr) (cap : Nat) (ps : List Pc) (s : ByteArray) (hps : ps.length ≤ 1000) (hs : s.size ≤ 1000) (hl : Lv w A ps) :
    Calls Try.prog 15 #[.slice A ps.length cap, .string s] w fun e w' => e = .returned (.bool (matchB ps s.data.toList)) ∧ Below w.heap.size w w' := by
  have hmk := fun W => run_make_row' (P := Try.prog) 55 4 (.bool false) 1 Try.underlying55 info4 rfl .i64 .i64 (ps.length + 1) (by omega) (by omega) W
  have ec : ((ps.length + 1 : Nat) : Int) = (ps.length : Int) + 1 := by omega
  rw [ec, made_bz] at hmk
  have HMK := Lib.hid hmk
  clear ec
  have b0 := bz_zero ps.length
  have b1 := bz_set ps.length
  go_enter Try.func15, Try.ntmps15
  go_wp2_with fail
  clear hmk b0 b1
  have hb0 : Bb (w.alloc (.cells (bo ps.length) 4)) w.heap.size (true :: List.replicate ps.length false) := heap_alloc_new w _
  have hB0 : Below w.heap.size w (w.alloc (.cells (bo ps.length) 4)) := (Below.refl _ _).alloc (Nat.le_refl _) _
  refine (skip_own _ A cap _ ps _ hps (by simp) (hl.below hB0) hb0).mono ?_
  rintro e w1 ⟨rfl, hb1, hg1⟩
  have hB1 : Below w.heap.size w w1 := hB0.grown hg1 hB0.size (fun k hk => by injection hk with hk; omega)
  have hb2 : Bb w1 w.heap.size (mt ps s.data.toList 0) := hb1
  clear hb0 hB0 hb1 hg1
  go_wp2_with fail
  go_loopg [5, 21] s.size (fun gk v5 v21 wr => ∃ (i m : Nat), i + gk = s.size ∧ v21 = .int .i64 (i : Int) ∧ v5 = .slice (some ⟨m, 0, none⟩) (ps.length + 1) (ps.length + 1) ∧ Bb wr m (mt ps s.data.toList i) ∧ w.heap.size ≤ m ∧ Below w.heap.size w wr)
  case atStart => exact ⟨0, _, by omega, rfl, rfl, hb2, Nat.le_refl _, hB1⟩
  case round =>
    clear hb2 hB1
    obtain ⟨i, m, hi, rfl, rfl, hb, hm, hB⟩ := hrel
    have hml := mt_len ps s.data.toList i
    cases gk with
    | zero =>
      obtain rfl : i = s.size := by omega
      have hc := hb.cell ps.length (by omega)
      have e : (mt ps s.data.toList s.size).getD ps.length false = matchB ps s.data.toList := by unfold matchB; rw [data_length]
      rw [e] at hc
      clear e hml
      go_wp2
      go_ret
      exact ⟨rfl, hB⟩
    | succ og =>
      have hi2 : i < s.size := by omega
      obtain ⟨c, hce⟩ : ∃ c, (s[i]'hi2) = c := ⟨_, rfl⟩
      have hgd : s.data.toList.getD i 0 = c := by
        have h' : i < s.data.toList.length := by rw [data_length]; exact hi2
        rw [List.getD_eq_getElem?_getD, List.getElem?_eq_getElem h', ← hce]
        rfl
      have emt : mt ps s.data.toList (i + 1) = skipTo ps (nextTo ps (mt ps s.data.toList i) c ps.length) ps.length := by simp only [mt]; rw [hgd]
      have EMT := Lib.hid emt
      have HML := Lib.hid hml
      clear emt hgd hml
      have hmk := HMK.out
      go_wp2_with fail
      clear hmk
      have hbn : Bb (wr.alloc (.cells (bz (ps.length + 1)) 4)) wr.heap.size (nextTo ps (mt ps s.data.toList i) c 0) := heap_alloc_new wr _
      have hbm : Bb (wr.alloc (.cells (bz (ps.length + 1)) 4)) m (mt ps s.data.toList i) := (Below.heap_alloc wr _ m hb.lt).trans hb
      have hmn : m ≠ wr.heap.size := Nat.ne_of_lt hb.lt
      have hwm : w.heap.size ≤ wr.heap.size := hB.size
      have hB2 : Below w.heap.size w (wr.alloc (.cells (bz (ps.length + 1)) 4)) := hB.alloc hwm _
      clear hb hB
      generalize wr.alloc (.cells (bz (ps.length + 1)) 4) = W2 at *
      generalize wr.heap.size = m2 at *
      go_loopg [30] ps.length (fun gj v30 wx => ∃ k : Nat, k + gj = ps.length ∧ v30 = .int .i64 (k : Int) ∧ Bb wx m (mt ps s.data.toList i) ∧ Bb wx m2 (nextTo ps (mt ps s.data.toList i) c k) ∧ Below w.heap.size w wx)
      case atStart => exact ⟨0, by omega, rfl, hbm, hbn, hB2⟩
      case round =>
        clear hbm hbn hB2
        obtain ⟨k, hk, rfl, hbm, hbn, hB⟩ := hrel
        cases gk with
        | zero =>
          obtain rfl : k = ps.length := by omega
          have hskip := skip_own wr A cap m2 ps _ hps (nextTo_len ps (mt ps s.data.toList i) c ps.length) (hl.below hB) hbn
          have HSK := Lib.hid hskip
          clear hskip
          go_wp2_with fail
          refine HSK.out.mono ?_
          rintro e w3 ⟨rfl, hb3, hg3⟩
          have hB3 : Below w.heap.size w w3 := hB.grown hg3 hB.size (fun q hq => by injection hq with hq; omega)
          rw [← EMT.out] at hb3
          clear hbm hbn hB hg3 HSK
          go_wp2
          go_roundg og
          case measure => omega
          case rel => exact ⟨i + 1, m2, by omega, by go_num, rfl, hb3, by omega, hB3⟩
        | succ gj =>
          have hk2 : k < ps.length := by omega
          obtain ⟨x, hx⟩ : ∃ x, ps[k]? = some x := ⟨ps[k], List.getElem?_eq_getElem hk2⟩
          have hxl := hl.1 x (List.mem_of_getElem? hx)
          obtain ⟨bl, rfl, hlp, cells, hcc⟩ := (hl.below hB).2 (by omega)
          have hr : wr.rangeAt bl (k * 257) (pcs x) := hlp.at_ k x hx
          have HX := Lib.hid hx
          have HXL := Lib.hid hxl
          clear hx hxl hlp hcc
          go_upto_region 10 with (fail)
          go_cut [8, 9] (fun v8 v9 wc => v8 = .int .i64 (k : Int) ∧ ∃ H, v9 = .pointer (some ⟨H, 0, none⟩) ∧ Pb wc H x ∧ Bb wc m (mt ps s.data.toList i) ∧ Bb wc m2 (nextTo ps (mt ps s.data.toList i) c k) ∧ Below w.heap.size w wc)
          case first =>
            have HTH := Lib.hid (show (wr.alloc (.cells Try.zeroCells53 53)).there wr.heap.size 0 (pcs x).toArray.size from by rw [pcs_size x HXL.out]; exact there_new wr)
            have HSZ := Lib.hid (show (Try.prog.info? 53).map (·.size) = some (pcs x).toArray.size from by rw [pcs_size x HXL.out]; exact size65)
            have HON := Lib.hid (all_oneCell_toArray (pcs_one x))
            go_wp2_with (first | ((with_reducible refine gate_dst (N := 34) rfl ?_); refine wpList_load_mid rfl 53 (.tmp 33) rfl bl (k * 257) rfl (pcs x) _ hr Try.underlying53 rfl (by rw [pcs_len x HXL.out]; exact size65) ?_) | ((with_reducible refine gate_store (t := 53) (p := 9) (v := .tmp 34) rfl ?_); refine wpList_store_mid rfl 53 (.tmp 9) (.tmp 34) rfl wr.heap.size 0 (pcs x).toArray rfl rfl HTH.out HSZ.out HON.out ?_))
            go_meet
            case rel =>
              obtain ⟨b1, b2⟩ := boxed wr x HXL.out
              exact ⟨rfl, _, rfl, b1, (b2.block m hbm.lt (by simp)).trans hbm, (b2.block m2 hbn.lt (by simp)).trans hbn, hB.grown b2 hB.size (fun q hq => by cases hq)⟩
          case rest =>
            clear hbm hbn hB hr
            obtain ⟨rfl, H, rfl, hP, hbm, hbn, hB⟩ := hcut
            have hnl := nextTo_len ps (mt ps s.data.toList i) c k
            have hcm := hbm.cell k (by rw [HML.out]; omega)
            have hcn := hbn.cell k (by omega)
            have hcn1 := hbn.cell (k + 1) (by omega)
            have hfn := hbn.fr k
            have hfn1 := hbn.fr (k + 1)
            have hck : wc.cell? ⟨H, 0, none⟩ = some (.int .i64 x.1) := hP.kind
            have hcs : wc.cell? ⟨H, 1 + c.toNat, none⟩ = some (.bool (x.2.getD c.toNat false)) := hP.cell HXL.out c.toNat c.toNat_lt
            have hc256 : (c.toNat : Int) < 256 := by have := c.toNat_lt; omega
            have hgx : ps.getD k (0, []) = x := by rw [List.getD_eq_getElem?_getD, HX.out]; rfl
            have HGX := Lib.hid hgx
            have HNL := Lib.hid hnl
            clear hgx hnl
            cases hq : (mt ps s.data.toList i).getD k false with
            | false =>
              rw [hq] at hcm
              have es : nextTo ps (mt ps s.data.toList i) c (k + 1) = nextTo ps (mt ps s.data.toList i) c k := by simp only [nextTo]; rw [hq, if_pos rfl]
              have ES := Lib.hid es
              clear es hq
              go_wp2
              go_roundg gj
              case measure => omega
              case rel => exact ⟨k + 1, by omega, by go_num, hbm, by rw [ES.out]; exact hbn, hB⟩
            | true =>
              rw [hq] at hcm
              by_cases hz : x.1 = 0
              · have es : nextTo ps (mt ps s.data.toList i) c (k + 1) = (nextTo ps (mt ps s.data.toList i) c k).set (k + 1) ((nextTo ps (mt ps s.data.toList i) c k).getD (k + 1) false || x.2.getD c.toNat false) := by
                  simp only [nextTo]; rw [hq, if_neg (by decide), HGX.out, if_pos hz]
                have ES := Lib.hid es
                rw [hz] at hck
                clear es hq hz
                have hb2 := hbn.set (k + 1) ((nextTo ps (mt ps s.data.toList i) c k).getD (k + 1) false || x.2.getD c.toNat false)
                rw [← ES.out] at hb2
                have hbm2 := hbm.kept (only_set wc m2 (k + 1) (.bool ((nextTo ps (mt ps s.data.toList i) c k).getD (k + 1) false || x.2.getD c.toNat false))) hmn
                have hB2 : Below w.heap.size w (wc.setCell ⟨m2, k + 1, none⟩ (.bool ((nextTo ps (mt ps s.data.toList i) c k).getD (k + 1) false || x.2.getD c.toNat false))) := hB.setCell hwm _
                have R := Lib.hid (And.intro hbm2 (And.intro hb2 hB2))
                clear hbm2 hb2 hB2 hbm hbn hB
                generalize (nextTo ps (mt ps s.data.toList i) c k).getD (k + 1) false = o1 at *
                generalize x.2.getD c.toNat false = o2 at *
                cases o1 with
                | true =>
                  go_wp2
                  go_roundg gj
                  case measure => omega
                  case rel => exact ⟨k + 1, by omega, by go_num, R.out.1, R.out.2.1, R.out.2.2⟩
                | false =>
                  go_wp2
                  go_roundg gj
                  case measure => omega
                  case rel => exact ⟨k + 1, by omega, by go_num, R.out.1, R.out.2.1, R.out.2.2⟩
              · have hz0 : (x.1 == 0) = false := beq_eq_false_iff_ne.2 hz
                have hb2 := hbn.set k true
                have hbm2 := hbm.kept (only_set wc m2 k (.bool true)) hmn
                have hB2 : Below w.heap.size w (wc.setCell ⟨m2, k, none⟩ (.bool true)) := hB.setCell hwm _
                have R := Lib.hid (And.intro hbm2 (And.intro hb2 hB2))
                clear hbm2 hb2 hB2
                by_cases hor : x.1 = 2 ∨ c ≠ 47
                · have es : nextTo ps (mt ps s.data.toList i) c (k + 1) = (nextTo ps (mt ps s.data.toList i) c k).set k true := by
                    simp only [nextTo]; rw [hq, if_neg (by decide), HGX.out, if_neg hz, if_pos hor]
                  have ES := Lib.hid es
                  clear es hq hz hbm hbn hB
                  cases h2 : (x.1 == 2) with
                  | true =>
                    clear hor
                    go_wp2
                    go_roundg gj
                    case measure => omega
                    case rel => exact ⟨k + 1, by omega, by go_num, R.out.1, by rw [ES.out]; exact R.out.2.1, R.out.2.2⟩
                  | false =>
                    have h47 : ((c.toNat : Int) == 47) = false := (u8_eq c 47 (by omega)).trans (by
                      rcases hor with h | h
                      · rw [h] at h2; cases h2
                      · exact beq_eq_false_iff_ne.2 h)
                    clear hor
                    go_wp2
                    go_roundg gj
                    case measure => omega
                    case rel => exact ⟨k + 1, by omega, by go_num, R.out.1, by rw [ES.out]; exact R.out.2.1, R.out.2.2⟩
                · have es : nextTo ps (mt ps s.data.toList i) c (k + 1) = nextTo ps (mt ps s.data.toList i) c k := by
                    simp only [nextTo]; rw [hq, if_neg (by decide), HGX.out, if_neg hz, if_neg hor]
                  have ES := Lib.hid es
                  have h2 : (x.1 == 2) = false := beq_eq_false_iff_ne.2 (fun h => hor (.inl h))
                  have h47 : ((c.toNat : Int) == 47) = true := (u8_eq c 47 (by omega)).trans (beq_iff_eq.2 (Decidable.byContradiction fun h => hor (.inr h)))
                  clear es hq hz hor
                  go_wp2
                  go_roundg gj
                  case measure => omega
                  case rel => exact ⟨k + 1, by omega, by go_num, hbm, by rw [ES.out]; exact hbn, hB⟩
end Go.Proofs.Ytkgldphpkglcmaa.Gl
