/- the reference's Match. -/
import Derived.Test.YtkgldphpkglcmaaGlT
import Derived.Lib.QuietBelow
namespace Go.Proofs.Ytkgldphpkglcmaa.Gl
open Go.RowKit Go.Proofs.YtkgldphpkglcmaaW.PrintWords Go.Proofs.YtkgldphpkglcmaaW.PrintLast Go.Proofs.YtkgldphpkglcmaaW.PrintMore
set_option linter.unusedSimpArgs false
set_option linter.unusedVariables false
open Go.Sort
def plainB (c : UInt8) : Bool := c != 63 && c != 91
theorem plain_ref (s : ByteArray) (n : Nat) (c : UInt8) (t : List UInt8) (h : Pos s n (c :: t)) (w : World) :
    Calls Try.prog 18 #[.string s, .int .i64 (n : Int)] w fun e w' => e = .returned (.bool (plainB c)) ∧ Below w.heap.size w w' := by
  have hlt := h.lt
  have hf : P.oakumref25_plain.f s n = some (plainB c) := by
    unfold P.oakumref25_plain.f
    rw [if_pos (by omega), if_pos (by omega), h.bt]
    by_cases e : c = 63
    · subst e; rfl
    · rw [if_neg (by exact u8_ne c 63 (by omega) e)]
      have e1 : ((c.toNat : Int) != 91) = (c != 91) := congrArg not (u8_eq c 91 (by omega))
      have e2 : (c != 63) = true := by simpa using e
      rw [e1]
      unfold plainB
      rw [e2]
      rfl
  refine (P.oakumref25_plain.calls s n _ w hf).mono ?_
  rintro e w' ⟨rfl, hd⟩
  exact ⟨rfl, hd.below⟩
def okL : Nat → List UInt8 → Bool
  | 0, _ => false
  | k + 1, l => match l with
    | [] => true
    | c :: t => match fst (c :: t) with
      | none => false
      | some (_, rest) => okL k rest
def starR (f : List UInt8 → Bool) (kd : Int) : List UInt8 → Bool
  | [] => f []
  | d :: u => f (d :: u) || (if kd = 1 ∧ d = 47 then false else starR f kd u)
def oneR (f : List UInt8 → Bool) (x : RP) (pl : Bool) : List UInt8 → Bool
  | [] => false
  | d :: u => hasR x.2.1 x.2.2 d pl && f u
def pieceR (f : List UInt8 → Bool) (x : RP) (pl : Bool) (u : List UInt8) : Bool := if x.1 = 0 then oneR f x pl u else starR f x.1 u
def matR : Nat → List UInt8 → List UInt8 → Bool
  | 0, _, _ => false
  | k + 1, l, u => match l with
    | [] => u.isEmpty
    | c :: t => match fst (c :: t) with
      | none => false
      | some (x, rest) => pieceR (matR k rest) x (plainB c) u
theorem setR_parts : ∀ (k : Nat) (l : List UInt8) (ps : List (UInt8 × UInt8)) (l2 : List UInt8) (p2 : List (UInt8 × UInt8)), setR k l ps = some (some (l2, p2)) → p2.length + l2.length ≤ ps.length + l.length
  | 0, _, _, _, _, h => by simp [setR] at h
  | k + 1, l, ps, l2, p2, h => by
    simp only [setR] at h
    split at h
    · split at h
      · simp at h
      · simp at h; rw [h.1, h.2]; omega
    · split at h
      · simp at h
      · rename_i hb
        have h1 := setR_parts k _ _ l2 p2 h
        have h2 := partR_lt l (fun e => hb (by rw [e]; exact partBad_nil))
        simp at h1
        omega
theorem fst_parts (c : UInt8) (t : List UInt8) (x : RP) (rest : List UInt8) (h : fst (c :: t) = some (x, rest)) : x.2.1.length ≤ t.length + 1 := by
  by_cases e42 : c = 42
  · subst e42
    rw [fst_42] at h
    unfold fst42 at h
    split at h <;> (simp at h; rw [← h.1]; simp)
  by_cases e63 : c = 63
  · subst e63; rw [fst_63] at h; simp at h; rw [← h.1]; simp
  by_cases e92 : c = 92
  · subst e92
    rw [fst_92] at h
    cases t with
    | nil => simp [fst92] at h
    | cons d t => simp [fst92] at h; rw [← h.1]; simp
  by_cases e91 : c = 91
  · subst e91
    rw [fst_91] at h
    cases hr : setR (t.length + 2) (setStart t) [] with
    | none => rw [hr] at h; simp [fst91] at h
    | some o => cases o with
      | none => rw [hr] at h; simp [fst91] at h
      | some y =>
        obtain ⟨l2, ps⟩ := y
        rw [hr] at h
        simp [fst91] at h
        have h1 := setR_parts _ _ _ _ _ hr
        have h2 := setStart_len t
        rw [← h.1]
        simp at h1 ⊢
        omega
  · rw [fst_o t e42 e63 e92 e91] at h; simp at h; rw [← h.1]; simp
set_option maxRecDepth 100000 in
set_option maxHeartbeats 6400000 in
theorem match_ref (s t : ByteArray) (hs : s.size ≤ 1000) (ht : t.size ≤ 1000) : ∀ (k : Nat) (l : List UInt8) (n : Nat) (u : List UInt8) (i : Nat), Pos s n l → Pos t i u → okL k l = true → ∀ w : World,
    Calls Try.prog 10 #[.string s, .int .i64 (n : Int), .string t, .int .i64 (i : Int)] w fun e w' => e = .returned (.bool (matR k l u)) ∧ Below w.heap.size w w'
  | 0, l, n, u, i, hp, hq, hok, w => by simp [okL] at hok
  | k + 1, [], n, u, i, hp, hq, hok, w => by
    have hl := hp.len
    have hge : (s.size : Int) ≤ (n : Int) := by simp at hl; omega
    have hv : matR (k + 1) [] u = ((i : Int) == (t.size : Int)) := by
      have := hq.len
      cases u with
      | nil => simp at this; simp [matR]; omega
      | cons d u => simp at this; simp [matR]; omega
    rw [hv]
    clear hl hok hp hq hv
    go_enter Try.func10, Try.ntmps10
    go_wp2
    go_ret
    exact ⟨rfl, Below.refl _ _⟩
  | k + 1, c :: tl, n, u, i, hp, hq, hok, w => by
    have IH := match_ref s t hs ht k
    have hlt := hp.lt
    cases hf : fst (c :: tl) with
    | none => simp only [okL] at hok; rw [hf] at hok; simp at hok
    | some y =>
      obtain ⟨x, rest⟩ := y
      have hok2 : okL k rest = true := by simp only [okL] at hok; rw [hf] at hok; exact hok
      have hm : matR (k + 1) (c :: tl) u = pieceR (matR k rest) x (plainB c) u := by simp only [matR]; rw [hf]
      rw [hm]
      have hps := fst_parts c tl x rest hf
      have hlen := hp.len
      have hps2 : x.2.1.length ≤ 1000 := by simp at hlen; omega
      have FR := Lib.hid (first_ref s n c tl hp hs)
      rw [hf] at FR
      have PL := Lib.hid (plain_ref s n c tl hp)
      have HIH := Lib.hid (fun n2 (hp2 : Pos s n2 rest) u i (hq : Pos t i u) W => IH rest n2 u i hp2 hq hok2 W)
      have HQ := Lib.hid hq
      have HPS := Lib.hid hps2
      clear hm hok hok2 IH hp hf hq hps hps2 hlen
      generalize matR k rest = F at *
      go_enter Try.func10, Try.ntmps10
      go_wp2_with fail
      refine (FR.out _).mono ?_
      rintro e w1 ⟨pv, n2, rfl, hp2, hpo, hb1⟩
      obtain ⟨pA, pc, rfl⟩ := own_slice hpo
      have IH2 := Lib.hid (HIH.out n2 hp2)
      clear FR HIH
      have hn2 := hp2.le
      have hX := heap_alloc_new w1 (.cells #[.int .i64 x.1, .slice pA x.2.1.length pc, .bool x.2.2] 40)
      have hbX : Below w.heap.size w (w1.alloc (.cells #[.int .i64 x.1, .slice pA x.2.1.length pc, .bool x.2.2] 40)) := hb1.alloc hb1.size _
      have hpX := hpo.alloc (.cells #[.int .i64 x.1, .slice pA x.2.1.length pc, .bool x.2.2] 40)
      have HX := Lib.hid (And.intro hX (And.intro hbX hpX))
      clear hX hbX hpX hb1 hpo hp2
      go_upto_region 4 with (fail)
      obtain ⟨hX, hbX, hpX⟩ := HX.out
      clear HX
      generalize w1.alloc (.cells #[.int .i64 x.1, .slice pA x.2.1.length pc, .bool x.2.2] 40) = W1 at *
      generalize w1.heap.size = X at *
      have hc0 : W1.cell? ⟨X, 0, none⟩ = some (.int .i64 x.1) := cell_of_row W1 X 0 _ 40 (0, 0) hX
      have hc1 : W1.cell? ⟨X, 1, none⟩ = some (.slice pA x.2.1.length pc) := cell_of_row W1 X 1 _ 40 (0, 0) hX
      have hc2 : W1.cell? ⟨X, 2, none⟩ = some (.bool x.2.2) := cell_of_row W1 X 2 _ 40 (0, 0) hX
      by_cases hz : x.1 = 0
      · have hv : pieceR F x (plainB c) u = oneR F x (plainB c) u := by unfold pieceR; rw [if_pos hz]
        have HV := Lib.hid hv
        rw [hz] at hc0
        clear hv hX
        go_upto_region 5 with (fail)
        cases u with
        | nil =>
          have hl := HQ.out.len
          have hnx : ¬ (i : Int) < (t.size : Int) := by simp at hl; omega
          clear hl
          go_quiet (fail)
          go_wp2
          go_ret
          exact ⟨by rw [HV.out]; rfl, pw_below_drewN hbX _⟩
        | cons d u2 =>
          have hlt2 := HQ.out.lt
          have hat2 := HQ.out.at hlt2
          have hw1 : wrap64 ((i : Int) + 1) = (i : Int) + 1 := by unfold wrap64; omega
          have k0 := cell_regrown hc0
          have k1 := cell_regrown hc1
          have k2 := cell_regrown hc2
          have cP : ∀ dd os, Calls Try.prog 18 #[.string s, .int .i64 (n : Int)] (grow (redrawn W1 dd) os) fun e w'' => e = .returned (.bool (plainB c)) ∧ ∃ p : Regrown, w'' = grow (redrawn W1 p.d) p.os := fun dd os => Calls.regrown_of (PL.out _)
          have cH : ∀ dd os, Calls Try.prog 17 #[.agg #[.int .i64 0, .slice pA x.2.1.length pc, .bool x.2.2], .int .u8 (d.toNat : Int), .bool (plainB c)] (grow (redrawn W1 dd) os) fun e w'' => e = .returned (.bool (hasR x.2.1 x.2.2 d (plainB c))) ∧ ∃ p : Regrown, w'' = grow (redrawn W1 p.d) p.os := fun dd os => Calls.regrown_of (has_ref 0 _ _ x.2.1 x.2.2 d (plainB c) _ (pw_own_below hpX (below_regrown W1 dd os)) HPS.out)
          have cM : ∀ dd os, Calls Try.prog 10 #[.string s, .int .i64 (n2 : Int), .string t, .int .i64 (IntKind.i64.wrap ((i : Int) + 1))] (grow (redrawn W1 dd) os) fun e w'' => e = .returned (.bool (F u2)) ∧ ∃ p : Regrown, w'' = grow (redrawn W1 p.d) p.os := fun dd os => Calls.regrown_of (by have := IH2.out u2 (i + 1) HQ.out.next (grow (redrawn W1 dd) os); rw [i64_w, hw1]; rw [show ((i + 1 : Nat) : Int) = (i : Int) + 1 from by omega] at this; exact this)
          have hv2 : pieceR F x (plainB c) (d :: u2) = (hasR x.2.1 x.2.2 d (plainB c) && F u2) := by rw [HV.out]; rfl
          have HV2 := Lib.hid hv2
          have CC := Lib.hid (And.intro cP (And.intro cH cM))
          clear hv2 HV PL IH2 HQ hpX cP cH cM hc0 hc1 hc2
          generalize hasR x.2.1 x.2.2 d (plainB c) = hb at *
          generalize F u2 = fb at *
          cases hb with
          | false =>
            refine wp_region_quiet_below (by kernel_rfl) (by kernel_rfl) ?_
            repeat (quiet_step (first | (with_reducible exact CC.out.1 _ _) | (with_reducible exact CC.out.2.1 _ _) | (with_reducible exact CC.out.2.2 _ _)))
            refine wpQuiet_nil ?_
            intro _ hw'
            obtain ⟨⟨dq, osq⟩, hw''⟩ := hw'
            subst hw''
            go_wp2
            go_ret
            exact ⟨by rw [HV2.out]; rfl, below_then hbX hbX.size (below_regrown _ dq osq)⟩
          | true =>
            refine wp_region_quiet_below (by kernel_rfl) (by kernel_rfl) ?_
            repeat (quiet_step (first | (with_reducible exact CC.out.1 _ _) | (with_reducible exact CC.out.2.1 _ _) | (with_reducible exact CC.out.2.2 _ _)))
            refine wpQuiet_nil ?_
            intro _ hw'
            obtain ⟨⟨dq, osq⟩, hw''⟩ := hw'
            subst hw''
            go_wp2
            go_ret
            exact ⟨by rw [HV2.out]; rfl, below_then hbX hbX.size (below_regrown _ dq osq)⟩
      · have hz0 : (x.1 == 0) = false := beq_eq_false_iff_ne.2 hz
        have hv : pieceR F x (plainB c) u = starR F x.1 u := by unfold pieceR; rw [if_neg hz]
        have HV := Lib.hid hv
        have hXl : X < W1.heap.size := (Array.getElem?_eq_some_iff.1 hX).1
        have hil := HQ.out.le
        have hul := HQ.out.len
        clear hv hc1 hc2 hpX PL hz
        go_wp2_with fail
        go_loopg [11] (u.length + 1) (fun gk v11 wr => wr.cell? ⟨X, 0, none⟩ = some (.int .i64 x.1) ∧ Below w.heap.size w wr ∧ X < wr.heap.size ∧ ∃ j : Nat, v11 = .int .i64 (j : Int) ∧ Aside0 ((∃ uu, Pos t j uu ∧ gk = uu.length + 1 ∧ starR F x.1 u = starR F x.1 uu) ∨ (j = t.size + 1 ∧ gk = 0 ∧ starR F x.1 u = false)))
        case atStart => exact ⟨hc0, hbX, hXl, i, rfl, ⟨.inl ⟨u, HQ.out, rfl, rfl⟩⟩⟩
        case round =>
          clear hc0 hbX hXl hX
          obtain ⟨hc0, hbX, hXl, j, rfl, hA⟩ := hrel
          cases gk with
          | zero =>
            obtain ⟨rfl, hsr⟩ : j = t.size + 1 ∧ starR F x.1 u = false := by
              rcases hA.out with ⟨uu, _, h, _⟩ | ⟨h1, _, h2⟩
              · omega
              · exact ⟨h1, h2⟩
            have HSR := Lib.hid hsr
            clear hsr hA
            go_wp2
            go_ret
            exact ⟨by rw [HV.out, HSR.out]; rfl, hbX⟩
          | succ gj =>
            obtain ⟨uu, hq2, hgj, hsr⟩ : ∃ uu, Pos t j uu ∧ gj = uu.length ∧ starR F x.1 u = starR F x.1 uu := by
              rcases hA.out with ⟨uu, h1, h, h2⟩ | ⟨_, h, _⟩
              · exact ⟨uu, h1, by omega, h2⟩
              · omega
            have hle2 := hq2.le
            have HSR := Lib.hid hsr
            have HQ2 := Lib.hid hq2
            clear hsr hA hq2
            go_wp2_with fail
            refine (IH2.out uu j HQ2.out _).mono ?_
            rintro e w2 ⟨rfl, hb2⟩
            have hc2 := (hb2.cell hXl).trans hc0
            have hbW := below_then hbX hbX.size hb2
            have hXl2 : X < w2.heap.size := Nat.lt_of_lt_of_le hXl hb2.size
            clear hb2 hbX hc0 hXl
            obtain ⟨fb, hfb⟩ : ∃ b, F uu = b := ⟨_, rfl⟩
            rw [hfb]
            have HFB := Lib.hid hfb
            clear hfb
            cases fb with
            | true =>
              go_wp2
              go_ret
              exact ⟨by rw [HV.out, HSR.out]; cases uu <;> (unfold starR; rw [HFB.out]; rfl), hbW⟩
            | false =>
              cases uu with
              | nil =>
                have hl := HQ2.out.len
                have hnx : ¬ (j : Int) < (t.size : Int) := by simp at hl; omega
                have hj : j = t.size := by simp at hl; omega
                clear hl
                go_wp2
                go_roundg 0
                case measure => omega
                case rel => exact ⟨hc2, hbW, hXl2, j + 1, by go_num, ⟨.inr ⟨by omega, rfl, by rw [HSR.out]; unfold starR; exact HFB.out⟩⟩⟩
              | cons d u3 =>
                have hlt2 := HQ2.out.lt
                have hat2 := HQ2.out.at hlt2
                by_cases h1 : x.1 = 1 ∧ d = 47
                · obtain ⟨h1, rfl⟩ := h1
                  have hk1 : (x.1 == 1) = true := beq_iff_eq.2 h1
                  have q47 : (((47 : UInt8).toNat : Int) == 47) = true := rfl
                  have hsv : starR F x.1 (47 :: u3) = false := by unfold starR; rw [HFB.out, if_pos ⟨h1, rfl⟩]; rfl
                  have HSV := Lib.hid hsv
                  clear hsv h1
                  go_wp2
                  go_ret
                  exact ⟨by rw [HV.out, HSR.out, HSV.out]; rfl, hbW⟩
                · have hsv : starR F x.1 (d :: u3) = starR F x.1 u3 := by
                    show (F (d :: u3) || (if x.1 = 1 ∧ d = 47 then false else starR F x.1 u3)) = _
                    rw [HFB.out, if_neg h1]; rfl
                  have HSV := Lib.hid hsv
                  have HP3 := Lib.hid HQ2.out.next
                  clear hsv
                  cases hk1 : (x.1 == 1) with
                  | false =>
                    clear h1
                    go_wp2
                    go_roundg gj
                    case measure => omega
                    case rel => exact ⟨hc2, hbW, hXl2, j + 1, by go_num, ⟨.inl ⟨u3, HP3.out, by simpa using hgj, by rw [HSR.out, HSV.out]⟩⟩⟩
                  | true =>
                    have h47 : ((d.toNat : Int) == 47) = false := (u8_eq d 47 (by omega)).trans (beq_eq_false_iff_ne.2 (fun h => h1 ⟨beq_iff_eq.1 hk1, h⟩))
                    clear h1
                    go_wp2
                    go_roundg gj
                    case measure => omega
                    case rel => exact ⟨hc2, hbW, hXl2, j + 1, by go_num, ⟨.inl ⟨u3, HP3.out, by simpa using hgj, by rw [HSR.out, HSV.out]⟩⟩⟩
end Go.Proofs.Ytkgldphpkglcmaa.Gl
