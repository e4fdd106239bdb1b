/- the reference's First, a set. -/
import Derived.Test.YtkgldphpkglcmaaGlQ
namespace Go.Proofs.Ytkgldphpkglcmaa.Gl
open Go.RowKit Go.Proofs.YtkgldphpkglcmaaW.PrintWords Go.Proofs.YtkgldphpkglcmaaW.PrintLast Go.Proofs.YtkgldphpkglcmaaW.PrintMore
set_option linter.unusedSimpArgs false
set_option linter.unusedVariables false
/-- First's memory while it reads a set: the result's block, the piece's block, its parts. -/
structure FS (w0 w : World) (R B : Nat) (ps : List (UInt8 × UInt8)) (b : Bool) (v : Value) : Prop where
  rb : w.heap[R]? = some (.cells #[.int .i64 0, .slice none 0 0, .bool false] 40 (0, 0))
  xb : w.heap[R + 1]? = some (.cells #[.int .i64 0, v, .bool b] 40 (0, 0))
  hB : B = R + 2
  hR : R = w0.heap.size
  own : w.ownsRow B 57 2 v ps.length (rowB ps)
  bel : Below w0.heap.size w0 w
theorem own_set3 {w : World} {B R : Nat} {e : TypeId} {size n : Nat} {v : Value} {xs : List Value} (h : w.ownsRow B e size v n xs) (hne : v.ownBlock ≠ some R) (a b c : Value) :
    (((w.setCell ⟨R, 0, none⟩ a).setCell ⟨R, 1, none⟩ b).setCell ⟨R, 2, none⟩ c).ownsRow B e size v n xs :=
  own_move h (fun k hk => by
    have hk2 : k ≠ R := by rintro rfl; exact hne hk
    exact ((Below.heap_setCell _ _ _ k hk2).trans (Below.heap_setCell _ _ _ k hk2)).trans (Below.heap_setCell _ _ _ k hk2))
theorem partBad_of {l : List UInt8} (h : partB l = true) : partBad l = true := by unfold partBad; rw [h]; rfl
theorem FS.c1' {w : World} {X : Nat} {a v b : Value} (h : w.heap[X]? = some (.cells #[a, v, b] 40 (0, 0))) : w.cell? ⟨X, 1, none⟩ = some v := cell_of_row w X 1 _ 40 (0, 0) h
theorem FS.f1' {w : World} {X : Nat} {a v b : Value} (h : w.heap[X]? = some (.cells #[a, v, b] 40 (0, 0))) : w.frozen? ⟨X, 1, none⟩ = false := frozen_of_row w X 1 _ 40 h
/-- does the set's reading go on. -/
def goB (ps : List (UInt8 × UInt8)) (l : List UInt8) : Bool := ps.isEmpty || (match l with | [] => false | c :: _ => c != 93)
theorem FS.start (w : World) (b : Bool) : FS w ((w.alloc (.cells #[.int .i64 0, .slice none 0 0, .bool false] 40)).alloc (.cells #[.int .i64 0, .slice none 0 0, .bool b] 40)) w.heap.size (w.heap.size + 2) [] b (.slice none 0 0) := by
  have e : (w.alloc (.cells #[.int .i64 0, .slice none 0 0, .bool false] 40)).heap.size = w.heap.size + 1 := by simp
  refine ⟨?_, ?_, rfl, rfl, own_nil _ _ _ _, by (repeat' (first | exact Below.refl _ _ | refine Below.drew ?_ | refine Below.setCell ?_ (by simp <;> omega) _ | refine Below.alloc ?_ (by simp <;> omega) _))⟩
  · exact (Below.heap_alloc _ _ _ (by simp)).trans (heap_alloc_new w _)
  · rw [← e]; exact heap_alloc_new _ _
section
variable {w0 W1 w2 : World} {R B : Nat} {ps : List (UInt8 × UInt8)} {b : Bool} {v : Value} {o : Obj}
theorem FS.lt (h : FS w0 W1 R B ps b v) : R + 1 < W1.heap.size := (Array.getElem?_eq_some_iff.1 h.xb).1
theorem FS.below (h : FS w0 W1 R B ps b v) (hb : Below W1.heap.size W1 w2) : FS w0 w2 R B ps b v :=
  ⟨(hb.block R (by have := h.lt; omega)).trans h.rb, (hb.block (R + 1) h.lt).trans h.xb, h.hB, h.hR, pw_own_below h.own hb, h.bel.trans (hb.mono (by have := h.lt; have := h.hR; omega))⟩
theorem FS.apart (h : FS w0 W1 R B ps b v) : v.ownBlock ≠ some R ∧ v.ownBlock ≠ some (R + 1) :=
  ⟨fun e => by have := own_base h.own _ e; have := h.hB; omega, fun e => by have := own_base h.own _ e; have := h.hB; omega⟩
theorem FS.c0 (h : FS w0 W1 R B ps b v) : W1.cell? ⟨R + 1, 0, none⟩ = some (.int .i64 0) := cell_of_row W1 (R + 1) 0 _ 40 (0, 0) h.xb
theorem FS.c1 (h : FS w0 W1 R B ps b v) : W1.cell? ⟨R + 1, 1, none⟩ = some v := cell_of_row W1 (R + 1) 1 _ 40 (0, 0) h.xb
theorem FS.c2 (h : FS w0 W1 R B ps b v) : W1.cell? ⟨R + 1, 2, none⟩ = some (.bool b) := cell_of_row W1 (R + 1) 2 _ 40 (0, 0) h.xb
theorem FS.r0 (h : FS w0 W1 R B ps b v) : W1.cell? ⟨R, 0, none⟩ = some (.int .i64 0) := cell_of_row W1 R 0 _ 40 (0, 0) h.rb
theorem FS.r1 (h : FS w0 W1 R B ps b v) : W1.cell? ⟨R, 1, none⟩ = some (.slice none 0 0) := cell_of_row W1 R 1 _ 40 (0, 0) h.rb
theorem FS.r2 (h : FS w0 W1 R B ps b v) : W1.cell? ⟨R, 2, none⟩ = some (.bool false) := cell_of_row W1 R 2 _ 40 (0, 0) h.rb
theorem FS.fr (h : FS w0 W1 R B ps b v) (i : Nat) : W1.frozen? ⟨R, i, none⟩ = false := frozen_of_row W1 R i _ 40 h.rb
theorem FS.fx (h : FS w0 W1 R B ps b v) (i : Nat) : W1.frozen? ⟨R + 1, i, none⟩ = false := frozen_of_row W1 (R + 1) i _ 40 h.xb
theorem fs_o (h : FS w0 W1 R B ps b v) : (W1.alloc o).ownsRow B 57 2 v ps.length (rowB ps) := h.own.alloc o
theorem fs_n (W1 : World) (x : UInt8 × UInt8) : ∀ j u, (bcs x)[j]? = some u → (W1.alloc (.cells #[.int .u8 (x.1.toNat : Int), .int .u8 (x.2.toNat : Int)] 57)).cell? ((⟨W1.heap.size, 0, none⟩ : Addr).add j) = some u :=
  fun j u hu => World.news_of_block (cs := (bcs x).toArray) (t := 57) (fr := (0, 0)) (heap_alloc_new W1 _) j u hu
theorem fs_b (h : FS w0 W1 R B ps b v) : B ≤ (W1.alloc o).heap.size := by have := h.lt; have := h.hB; simp; omega
theorem fs_blk (h : FS w0 W1 R B ps b v) (hgr : (W1.alloc o).grownBy w2 v.ownBlock) : w2.heap[R]? = some (.cells #[.int .i64 0, .slice none 0 0, .bool false] 40 (0, 0)) ∧ w2.heap[R + 1]? = some (.cells #[.int .i64 0, v, .bool b] 40 (0, 0)) := by
  have hl := h.lt
  constructor
  · exact ((hgr.block R (by simp; omega) (fun e => h.apart.1 e.symm)).trans (Below.heap_alloc W1 o R (by omega))).trans h.rb
  · exact ((hgr.block (R + 1) (by simp; omega) (fun e => h.apart.2 e.symm)).trans (Below.heap_alloc W1 o (R + 1) (by omega))).trans h.xb
theorem FS.not {w0 W1 : World} {R B : Nat} (h : FS w0 W1 R B [] false (.slice none 0 0)) : FS w0 (W1.setCell ⟨R + 1, 2, none⟩ (.bool true)) R B [] true (.slice none 0 0) :=
  ⟨(Below.heap_setCell W1 _ _ R (by simp)).trans h.rb, heap_setCell_same W1 (R + 1) 2 _ 40 (.bool true) h.xb, h.hB, h.hR, own_nil _ _ _ _, h.bel.setCell (by have := h.hR; show w0.heap.size ≤ R + 1; omega) _⟩
theorem FS.push (h : FS w0 W1 R B ps b v) (x : UInt8 × UInt8) {v2 : Value} (hown : w2.ownsRow B 57 2 v2 (ps.length + 1) (rowB ps ++ bcs x)) (hgr : (W1.alloc o).grownBy w2 v.ownBlock) :
    FS w0 (w2.setCell ⟨R + 1, 1, none⟩ v2) R B (ps ++ [x]) b v2 := by
  obtain ⟨h1, h2⟩ := fs_blk h hgr
  have hne : ∀ k, v2.ownBlock = some k → k ≠ R + 1 := fun k hk e => by have := own_base hown k hk; have := h.hB; omega
  have hl := h.lt
  refine ⟨(Below.heap_setCell w2 _ _ R (by simp)).trans h1, heap_setCell_same w2 (R + 1) 1 _ 40 v2 h2, h.hB, h.hR, ?_, ?_⟩
  · rw [rowB_snoc, List.length_append, List.length_singleton]
    exact own_move hown (fun k hk => Below.heap_setCell w2 _ _ k (hne k hk))
  · exact (((h.bel.alloc (by have := h.hR; omega) o).grown hgr (by have := h.hR; simp; omega) (fun k hk => by have := own_base h.own k hk; have := h.hB; have := h.hR; omega))).setCell (by have := h.hR; show w0.heap.size ≤ R + 1; omega) _
end
set_option maxRecDepth 100000 in
set_option maxHeartbeats 3200000 in
theorem first_91 (s : ByteArray) (n : Nat) (t : List UInt8) (hp : Pos s n (91 :: t)) (hs : s.size ≤ 1000) (w : World) :
    Calls Try.prog 16 #[.string s, .int .i64 (n : Int)] w fun e w' => FirstPost w w' e s (fst (91 :: t)) := by
  have hlt := hp.lt
  have hat := hp.at hlt
  have HP := Lib.hid hp
  clear hp
  rw [fst_91]
  obtain ⟨r0, hr0⟩ := setR_some (t.length + 2) (setStart t) [] (by have := setStart_len t; omega)
  rw [hr0]
  have HR0 := Lib.hid hr0
  have HPN := Lib.hid HP.out.next
  clear hr0 HP
  have n42 : (((91 : UInt8).toNat : Int) == 42) = false := rfl
  have n63 : (((91 : UInt8).toNat : Int) == 63) = false := rfl
  have n92 : (((91 : UInt8).toNat : Int) == 92) = false := rfl
  have q91 : (((91 : UInt8).toNat : Int) == 91) = true := rfl
  obtain ⟨i69, hi69, hzz⟩ := Option.map_eq_some_iff.1 info69
  simp only [Prod.mk.injEq] at hzz
  obtain ⟨hz69, hs69, hb69⟩ := hzz
  have INF := Lib.hid (And.intro hi69 (And.intro hz69 (And.intro hs69 hb69)))
  clear hi69 hz69 hs69 hb69
  go_enter Try.func16, Try.ntmps16
  have HS0 := Lib.hid (FS.start w false)
  go_upto_region 15 with (fail)
  have hS := HS0.out
  clear HS0
  generalize (w.alloc (.cells #[.int .i64 0, .slice none 0 0, .bool false] 40)).alloc (.cells #[.int .i64 0, .slice none 0 0, .bool false] 40) = W0 at *
  obtain ⟨R, hR⟩ : ∃ R, w.heap.size = R := ⟨_, rfl⟩
  rw [hR] at hS ⊢
  have HBe := Lib.hid hR
  clear hR n42 n63 n92 q91 hat
  go_cut [73] (fun v73 wc => v73 = .bool (setNot t) ∧ W0 = wc)
  case first =>
    rcases t with _ | ⟨a, t2⟩
    · have hl := HPN.out.len
      have hnx : ¬ (n : Int) + 1 < (s.size : Int) := by simp at hl; omega
      clear hl
      go_wp2
      go_meet
      case rel => exact ⟨rfl, rfl⟩
    · have hlt2 := HPN.out.lt
      have hat2 := HPN.out.at hlt2
      have e : ((a.toNat : Int) == 33) = (a == 33) := u8_eq a 33 (by omega)
      go_wp2
      go_meet
      case rel => exact ⟨by simp [setNot], rfl⟩
  case rest =>
    obtain ⟨rfl, rfl⟩ := hcut
    obtain ⟨nb, hnb⟩ : ∃ b, setNot t = b := ⟨_, rfl⟩
    rw [hnb]
    have HNB := Lib.hid hnb
    clear hnb
    go_upto_if 73 with (fail)
    go_cut [1] (fun v1 wc => ∃ n1 : Nat, v1 = .int .i64 (n1 : Int) ∧ Pos s n1 (setStart t) ∧ FS w wc R (R + 2) [] nb (.slice none 0 0))
    case first =>
      cases nb with
      | false =>
        go_wp2
        go_meet
        case rel =>
          refine ⟨n + 1, rfl, ?_, hS⟩
          have e : setStart t = t := if_neg (fun h => by have := HNB.out; simp [setNot, h] at this)
          rw [e]
          exact HPN.out
      | true =>
        obtain ⟨t2, rfl⟩ : ∃ t2, t = 33 :: t2 := by
          have := HNB.out
          cases t with
          | nil => simp [setNot] at this
          | cons a t2 => simp [setNot] at this; exact ⟨t2, by rw [this]⟩
        have HP2 := Lib.hid HPN.out.next
        have hlt2 := HPN.out.lt
        have hfx := hS.fx 2
        have hc2 := hS.c2
        have HS2 := Lib.hid hS.not
        go_wp2
        go_meet
        case rel => exact ⟨n + 1 + 1, by go_num, HP2.out, HS2.out⟩
    case rest =>
      clear hS
      obtain ⟨n1, rfl, hp1, hS⟩ := hcut
      have hl1 : (setStart t).length ≤ 1000 := by have := hp1.len; omega
      generalize setStart t = l1 at *
      clear hlt
      go_wp2_with fail
      go_loopg [1] (t.length + 2) (fun gk v1 wr => ∃ (n1 : Nat) (l : List UInt8) (ps : List (UInt8 × UInt8)) (v : Value), v1 = .int .i64 (n1 : Int) ∧ Pos s n1 l ∧ FS w wr R (R + 2) ps nb v ∧ Aside0 (setR gk l ps = some r0) ∧ ps.length + l.length ≤ 1000)
      case atStart => exact ⟨n1, l1, [], _, rfl, hp1, hS, ⟨HR0.out⟩, by simpa using hl1⟩
      case round =>
        clear hS hp1 hl1 HR0
        obtain ⟨n1, l, ps, v, rfl, hp, hS, hR, hlen⟩ := hrel
        cases gk with
        | zero => exact absurd hR.out (by simp [setR])
        | succ k =>
          obtain ⟨A, cap, rfl⟩ := own_slice hS.own
          have hc1 := hS.c1
          go_upto_region 18 with (fail)
          go_cut [92] (fun v92 wc => v92 = .bool (goB ps l) ∧ wr = wc)
          case first =>
            rcases ps with _ | ⟨p, ps2⟩
            · go_wp2
              go_meet
              case rel => exact ⟨rfl, rfl⟩
            · have hne : (((p :: ps2).length : Int) == 0) = false := beq_eq_false_iff_ne.2 (by simp; omega)
              generalize (p :: ps2).length = pl at *
              rcases l with _ | ⟨a, l2⟩
              · have hl := hp.len
                have hnx : ¬ (n1 : Int) < (s.size : Int) := by simp at hl; omega
                clear hl
                go_wp2
                go_meet
                case rel => exact ⟨rfl, rfl⟩
              · have hlt2 := hp.lt
                have hat2 := hp.at hlt2
                have e : ((a.toNat : Int) != 93) = (a != 93) := congrArg not (u8_eq a 93 (by omega))
                go_wp2
                go_meet
                case rel => exact ⟨rfl, rfl⟩
          case rest =>
            obtain ⟨rfl, rfl⟩ := hcut
            cases hg : goB ps l with
            | false =>
              obtain ⟨pl, hpl⟩ : ∃ pl, ps = pl := ⟨_, rfl⟩
              have hne : ps ≠ [] := fun e => by rw [e] at hg; simp [goB] at hg
              rcases l with _ | ⟨a, l2⟩
              · have hrn : r0 = none := by have := hR.out; rw [setR_nil hne] at this; simpa using this.symm
                subst hrn
                have hl := hp.len
                have hge : (s.size : Int) ≤ (n1 : Int) := by simp at hl; omega
                have hr0 := hS.r0
                have hr1 := hS.r1
                have hr2 := hS.r2
                have hf0 := hS.fr 0
                have hf1 := hS.fr 1
                have hf2 := hS.fr 2
                clear hl hR hg hne
                go_wp2
                (try simp only [Exit.inBlock, Exit.then])
                refine bodyPost_ret (v := .tuple #[.agg #[.int .i64 0, .slice none 0 0, .bool false], .int .i64 (-1)]) (by rw [results_cell_tmp rfl]; go_simp) rfl ⟨rfl, ?_⟩
                (repeat' (first | exact FS.bel hS | refine Below.drew ?_ | refine Below.setCell ?_ (by have := FS.hR hS; simp; omega) _))
              · obtain rfl : a = 93 := by
                  have : ps.isEmpty = false := by cases ps with | nil => exact absurd rfl hne | cons x y => rfl
                  rw [goB, this] at hg
                  simpa using hg
                have hrn : r0 = some (93 :: l2, ps) := by have := hR.out; rw [setR_end hne (by simp) rfl] at this; simpa using this.symm
                subst hrn
                have hlt2 := hp.lt
                have HP2 := Lib.hid hp.next
                have hr0 := hS.r0
                have hr1 := hS.r1
                have hr2 := hS.r2
                have hf0 := hS.fr 0
                have hf1 := hS.fr 1
                have hf2 := hS.fr 2
                have hx0 := hS.c0
                have hx2 := hS.c2
                clear hR hg hne
                go_wp2
                (try simp only [Exit.inBlock, Exit.then])
                refine bodyPost_ret (v := .tuple #[.agg #[.int .i64 0, .slice A ps.length cap, .bool nb], .int .i64 ((n1 : Int) + 1)]) (by rw [results_cell_tmp rfl]; go_simp) rfl ⟨.slice A ps.length cap, n1 + 1, ?_, HP2.out, ?_, ?_⟩
                · rw [← HNB.out]; rfl
                · exact own_weaken (own_set3 hS.own hS.apart.1 _ _ _) (by have := hS.hR; omega)
                · (repeat' (first | exact FS.bel hS | refine Below.drew ?_ | refine Below.setCell ?_ (by have := FS.hR hS; simp; omega) _))
            | true =>
              have hgo : ¬ (ps ≠ [] ∧ (l = [] ∨ l.head? = some 93)) := by
                rintro ⟨h1, h2⟩
                cases ps with
                | nil => exact h1 rfl
                | cons p ps2 =>
                  rcases h2 with rfl | h2
                  · simp [goB] at hg
                  · cases l with
                    | nil => simp at h2
                    | cons a l2 => simp at h2; simp [goB, h2] at hg
              have HGO := Lib.hid hgo
              clear hgo hg
              go_wp2_with fail
              refine (member_ref s n1 l hp hs _).mono ?_
              rintro e w1 ⟨mv, rfl, hb1, hbad, hok⟩
              have hS1 := hS.below hb1
              clear hS hb1 hc1
              cases hmb : memB l with
              | true =>
                have hmv := hbad hmb
                subst hmv
                have hrn : r0 = none := by have := hR.out; rw [setR_bad HGO.out (partBad_of (by unfold partB; split <;> simp [hmb]))] at this; simpa using this.symm
                subst hrn
                clear hbad hok hR
                have hr0 := hS1.r0
                have hr1 := hS1.r1
                have hr2 := hS1.r2
                have hf0 := hS1.fr 0
                have hf1 := hS1.fr 1
                have hf2 := hS1.fr 2
                go_wp2
                (try simp only [Exit.inBlock, Exit.then])
                refine bodyPost_ret (v := .tuple #[.agg #[.int .i64 0, .slice none 0 0, .bool false], .int .i64 (-1)]) (by rw [results_cell_tmp rfl]; go_simp) rfl ⟨rfl, ?_⟩
                (repeat' (first | exact FS.bel hS1 | refine Below.drew ?_ | refine Below.setCell ?_ (by have := FS.hR hS1; simp; omega) _))
              | false =>
                obtain ⟨n2, rfl, hp2⟩ := hok hmb
                clear hbad hok
                have ev : ((if false = true then 0 else (memC l).toNat : Nat) : Int) = ((memC l).toNat : Int) := rfl
                rw [ev]
                clear ev
                go_upto_region 23 with (fail)
                go_cut [112] (fun v112 wc => v112 = .bool (partTwo l) ∧ w1 = wc)
                case first =>
                  obtain ⟨m, hm⟩ : ∃ m, memR l = m := ⟨_, rfl⟩
                  have epT : partTwo l = (m.head? == some 45) := by unfold partTwo; rw [hm]
                  rw [hm] at hp2
                  have EPT := Lib.hid epT
                  clear epT hm
                  rcases m with _ | ⟨a, l2⟩
                  · have hl := hp2.len
                    have hnx : ¬ (n2 : Int) < (s.size : Int) := by simp at hl; omega
                    clear hl
                    go_wp2
                    go_meet
                    case rel => exact ⟨by rw [EPT.out]; rfl, rfl⟩
                  · have hlt2 := hp2.lt
                    have hat2 := hp2.at hlt2
                    have e : ((a.toNat : Int) == 45) = (a == 45) := u8_eq a 45 (by omega)
                    go_wp2
                    go_meet
                    case rel => exact ⟨by rw [EPT.out]; simp, rfl⟩
                case rest =>
                  obtain ⟨rfl, rfl⟩ := hcut
                  go_upto_if 112 with (fail)
                  go_cut [8, 9] (fun v8 v9 wc => ∃ n3 : Nat, v8 = .int .i64 (n3 : Int) ∧ v9 = .int .u8 ((partHi l).toNat : Int) ∧ Pos s n3 (partR l) ∧ FS w wc R (R + 2) ps nb (.slice A ps.length cap) ∧ partB l = false)
                  case first =>
                    cases hpt : partTwo l with
                    | false =>
                      go_wp2
                      go_meet
                      case rel => exact ⟨n2, rfl, by simp [partHi, hpt], by simpa [partR, hpt] using hp2, hS1, by simp [partB, hpt, hmb]⟩
                    | true =>
                      have hpm : Pos s (n2 + 1) (memR l).tail := by
                        have h45 : (memR l).head? = some 45 := by simpa [partTwo] using hpt
                        cases hm : memR l with
                        | nil => rw [hm] at h45; simp at h45
                        | cons a l2 => rw [hm] at hp2; exact hp2.next
                      have hm := member_ref s (n2 + 1) _ hpm hs
                      rw [show ((n2 + 1 : Nat) : Int) = (n2 : Int) + 1 from by omega] at hm
                      have HM := Lib.hid hm
                      have hlt2 : n2 + 1 ≤ s.size := hpm.le
                      clear hm
                      go_wp2_with fail
                      refine (HM.out _).mono ?_
                      rintro e w2 ⟨mv, rfl, hb2, hbad, hok⟩
                      have hS2 := hS1.below hb2
                      clear hb2 hS1 hp2 HM hpm
                      cases hmb2 : memB (memR l).tail with
                      | true =>
                        have hmv := hbad hmb2
                        subst hmv
                        have hrn : r0 = none := by have := hR.out; rw [setR_bad HGO.out (partBad_of (by unfold partB; rw [if_pos hpt, hmb2, Bool.or_true]))] at this; simpa using this.symm
                        subst hrn
                        clear hbad hok hR
                        have hr0 := hS2.r0
                        have hr1 := hS2.r1
                        have hr2 := hS2.r2
                        have hf0 := hS2.fr 0
                        have hf1 := hS2.fr 1
                        have hf2 := hS2.fr 2
                        go_wp2
                        (try simp only [Exit.inBlock, Exit.then])
                        refine bodyPost_ret (v := .tuple #[.agg #[.int .i64 0, .slice none 0 0, .bool false], .int .i64 (-1)]) (by rw [results_cell_tmp rfl]; go_simp) rfl ⟨rfl, ?_⟩
                        (repeat' (first | exact FS.bel hS2 | refine Below.drew ?_ | refine Below.setCell ?_ (by have := FS.hR hS2; simp; omega) _))
                      | false =>
                        obtain ⟨n3, rfl, hp3⟩ := hok hmb2
                        clear hbad hok
                        go_wp2
                        go_meet
                        case rel => exact ⟨n3, rfl, by simp [partHi, hpt], by simpa [partR, hpt] using hp3, hS2, by simp [partB, hpt, hmb, hmb2]⟩
                  case rest =>
                    clear hS1 hp2
                    obtain ⟨n3, rfl, rfl, hp3, hS, hpb⟩ := hcut
                    by_cases hlo : (partHi l).toNat < (partLo l).toNat
                    · have hrn : r0 = none := by have := hR.out; rw [setR_bad HGO.out (by unfold partBad; rw [decide_eq_true hlo, Bool.or_true])] at this; simpa using this.symm
                      subst hrn
                      have hd : decide ((partHi l).toNat < (memC l).toNat) = true := decide_eq_true hlo
                      clear hR
                      have hr0 := hS.r0
                      have hr1 := hS.r1
                      have hr2 := hS.r2
                      have hf0 := hS.fr 0
                      have hf1 := hS.fr 1
                      have hf2 := hS.fr 2
                      go_wp2
                      (try simp only [Exit.inBlock, Exit.then])
                      refine bodyPost_ret (v := .tuple #[.agg #[.int .i64 0, .slice none 0 0, .bool false], .int .i64 (-1)]) (by rw [results_cell_tmp rfl]; go_simp) rfl ⟨rfl, ?_⟩
                      (repeat' (first | exact FS.bel hS | refine Below.drew ?_ | refine Below.setCell ?_ (by have := FS.hR hS; simp; omega) _))
                    · have hR2 : setR k (partR l) (ps ++ [(partLo l, partHi l)]) = some r0 := by
                        have := hR.out
                        rwa [setR_go HGO.out (by unfold partBad; rw [hpb, decide_eq_false hlo]; decide)] at this
                      have hd : decide ((partHi l).toNat < (memC l).toNat) = false := decide_eq_false hlo
                      have hll : (partR l).length + 1 ≤ l.length := partR_lt l (fun e => by rw [e] at hpb; exact absurd hpb (by decide))
                      have HR2 := Lib.hid hR2
                      obtain ⟨hi69, hz69, hs69, hb69⟩ := INF.out
                      have hc1 := hS.c1
                      clear hR hR2 hlo
                      go_wp2_with (at_builtin; refine wpList_append_lies _ rfl (.tmp 128) (.tmp 132) 38 rfl (R + 2) 57 i69 _ 2 2 Try.underlying38 hi69 hz69 hs69 hb69 rfl (by omega) (.slice A ps.length cap) ps.length (rowB ps) rfl (fs_o hS) ⟨wc.heap.size, 0, none⟩ 1 1 (bcs (partLo l, partHi l)) rfl rfl (fs_n wc _) (bcs_one _) (by omega) (by unfold maxLen; omega) (by omega) (fs_b hS) _ rfl ?_; intro g2 cap2 w2 hown2 hgr2 _ _; have c1 := FS.c1' (fs_blk hS hgr2).2; have f1 := FS.f1' (fs_blk hS hgr2).2)
                      go_roundg k
                      case measure => omega
                      case rel => exact ⟨n3, partR l, _, _, rfl, hp3, hS.push _ hown2 hgr2, ⟨HR2.out⟩, by simp; omega⟩
theorem first_ref (s : ByteArray) (n : Nat) (c : UInt8) (t : List UInt8) (hp : Pos s n (c :: t)) (hs : s.size ≤ 1000) (w : World) :
    Calls Try.prog 16 #[.string s, .int .i64 (n : Int)] w fun e w' => FirstPost w w' e s (fst (c :: t)) := by
  by_cases h : c = 91
  · subst h; exact first_91 s n t hp hs w
  · exact first_o s n c t h hp hs w
end Go.Proofs.Ytkgldphpkglcmaa.Gl
