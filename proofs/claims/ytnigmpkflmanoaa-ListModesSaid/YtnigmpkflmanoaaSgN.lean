/- ListModes: a text that is read as signs is just the signs of what it is read as, and all else is Form. For every text. -/
import Derived.Test.YtnigmpkflmanoaaSgL
import Derived.Lib.QuietBelow
import Derived.BigQuiet
import Derived.Deep.DeepCutAuto
import Derived.Deep.CutRange
namespace Go.Proofs.Ytnigmpkflmanoaa.Sg
open Go.RowKit Go.Proofs.YtnigmpkflmanoaaW.PrintWords Go.Proofs.YtnigmpkflmanoaaW.PrintLast Go.Proofs.YtnigmpkflmanoaaW.PrintMore
open Go.Proofs.Ytnigmpkflmanoaa.Sig
theorem idx_all : ∀ a : Fin 256, Lib.indexByte [63, 45, 104, 108, 99, 98, 100, 112] (UInt8.ofNat a.1) ≤ 7 := by decide +kernel
theorem kidx_le (l : List UInt8) : kidx l ≤ 7 := by
  have h := idx_all ⟨(l.getD 0 0).toNat, (l.getD 0 0).toNat_lt⟩
  simp only [UInt8.ofNat_toNat] at h
  exact h
theorem good_facts (l : List UInt8) (h : good l = true) : 1 ≤ kidx l ∧ kidx l ≤ 7 ∧ dec l.tail < 4096 ∧ sgl (kidx l) (dec l.tail : Nat) = l := by
  have h' := of_decide_eq_true h
  refine ⟨h'.2.1, kidx_le l, ?_, h'.2.2⟩
  have e : l.tail = body (nn ((dec l.tail : Nat) : Int)) := by
    have := congrArg List.tail h'.2.2
    exact this.symm
  have e2 := dec_body (nn ((dec l.tail : Nat) : Int)) (nn_lt _)
  rw [← e] at e2
  rw [e2]
  exact nn_lt _
theorem not_good (s : ByteArray) (h : good s.data.toList = false) (k m : Int) (hk : 1 ≤ k ∧ k ≤ 7) : (sgl k m == s.toList) = false := by
  rw [ByteArray.toList_eq, beq_eq_false_iff_ne]
  intro e
  rw [← e, good_sgl k m hk] at h
  cases h
set_option maxRecDepth 100000 in
set_option maxHeartbeats 1600000 in
theorem modes_good (s : ByteArray) (hs : s.size ≤ 200) (hg : good s.data.toList = true) (w : World) :
    Calls Try.prog 4 #[.string s] w fun e w' => e = .returned (.bool true) ∧ Below w.heap.size w w' := by
  obtain ⟨g1, g2, g3, g4⟩ := good_facts _ hg
  have ek : modeK s.data.toList = kidx s.data.toList := by unfold modeK; rw [hg]; rfl
  have em : modeM s.data.toList = ((dec s.data.toList.tail : Nat) : Int) := by unfold modeM; rw [hg]; rfl
  have ee : modeE s.data.toList = 0 := by unfold modeE; rw [hg]; rfl
  have eq : (sgl (kidx s.data.toList) ((dec s.data.toList.tail : Nat) : Int) == s.toList) = true := by rw [ByteArray.toList_eq, g4]; exact beq_self_eq_true _
  have MODE := Lib.hid (fun W : World => show Calls Try.prog 11 #[.string s] W fun e w' => e = .returned (.tuple #[.int .i64 (kidx s.data.toList), .int .i64 ((dec s.data.toList.tail : Nat) : Int), .int .u8 0]) ∧ Below W.heap.size W w' from by rw [← ek, ← em, ← ee]; exact mode_any s W)
  clear ek em ee g4 hg
  generalize kidx s.data.toList = k at *
  generalize dec s.data.toList.tail = m at *
  go_enter Try.func4, Try.ntmps4
  go_wp2_with (first | (go_at_call 8; refine (alive_any _).mono ?_; rintro e w1 ⟨rfl, hb⟩; have hB := hb; clear hb) | (go_at_call 10; refine (ref_signs _ _ _).mono ?_; rintro e w1 ⟨rfl, hb⟩; replace hB := below_then hB hB.size hb; clear hb) | (go_at_call 11; refine (MODE.out _).mono ?_; rintro e w1 ⟨rfl, hb⟩; replace hB := below_then hB hB.size hb; clear hb))
  go_ret
  exact ⟨rfl, hB⟩
set_option maxRecDepth 100000 in
set_option maxHeartbeats 1600000 in
theorem modes_not (s : ByteArray) (hs : s.size ≤ 200) (hs10 : ((s.size : Int) == 10) = false) (hg : good s.data.toList = false) (w : World) :
    Calls Try.prog 4 #[.string s] w fun e w' => e = .returned (.bool true) ∧ Below w.heap.size w w' := by
  have ek : modeK s.data.toList = 0 := by unfold modeK; rw [hg]; rfl
  have em : modeM s.data.toList = 0 := by unfold modeM; rw [hg]; rfl
  have ee : modeE s.data.toList = 15 := by unfold modeE; rw [hg]; rfl
  have MODE := Lib.hid (fun W : World => show Calls Try.prog 11 #[.string s] W fun e w' => e = .returned (.tuple #[.int .i64 0, .int .i64 0, .int .u8 15]) ∧ Below W.heap.size W w' from by have h := mode_any s W; rw [ek, em, ee] at h; exact h)
  have HG := Lib.hid hg
  clear ek em ee hg
  go_enter Try.func4, Try.ntmps4
  go_wp2_with (first | (go_at_call 8; refine (alive_any _).mono ?_; rintro e w1 ⟨rfl, hb⟩; have hB := hb; clear hb) | (go_at_call 11; refine (MODE.out _).mono ?_; rintro e w1 ⟨rfl, hb⟩; replace hB := below_then hB hB.size hb; clear hb))
  go_loopw [6] (fun i wr => ∃ j : Nat, j ≤ 7 ∧ i = .int .i64 ((j : Int) + 1) ∧ Below w.heap.size w wr) (fun i _ => (8 - intOf i).toNat)
  case atStart => exact ⟨0, by omega, rfl, hB⟩
  case round =>
    clear hB
    obtain ⟨j, hj, rfl, hB⟩ := hrel
    by_cases hlt : j < 7
    · obtain ⟨wo, rfl⟩ : ∃ wo : World, wo = wr := ⟨_, rfl⟩
      have hd : decide ((j : Int) + 1 ≤ 7) = true := decide_eq_true (by omega)
      go_wp2
      go_loopw [7] (fun i wr => ∃ m : Nat, m ≤ 4096 ∧ i = .int .i64 (m : Int) ∧ Below w.heap.size w wr) (fun i _ => (4096 - intOf i).toNat)
      case atStart => exact ⟨0, by omega, rfl, hB⟩
      case round =>
        clear hB
        obtain ⟨m, hm, rfl, hB⟩ := hrel
        by_cases hm2 : m < 4096
        · have hne := not_good s HG.out ((j : Int) + 1) (m : Int) (by omega)
          have hl0 := sgl_len ((j : Int) + 1) 0
          have RS := Lib.hid (fun (x y : Int) (W : World) (d : Nat) (os : Array Obj) => Calls.regrown_of (w := W) (d := d) (os := os) (ref_signs x y _))
          go_upto_region 16 with (fail)
          go_cut [79] (fun v wc => v = .bool false ∧ Below w.heap.size w wc)
          case first =>
            go_quiet (fail)
            go_wp2
            go_meet
            case rel => exact ⟨rfl, pw_below_drewN hB _⟩
          case rest =>
            obtain ⟨rfl, hB⟩ := hcut
            go_wp2
            go_roundw
            case rel => exact ⟨m + 1, by omega, by go_num, hB⟩
            case measure => simp [intOf]; omega
        · obtain rfl : m = 4096 := by omega
          go_wp2
          go_roundw
          case rel => exact ⟨j + 1, by omega, by go_num, hB⟩
          case measure => simp [intOf]; omega
    · obtain rfl : j = 7 := by omega
      go_wp2
      go_ret
      exact ⟨rfl, hB⟩
set_option maxRecDepth 100000 in
set_option maxHeartbeats 1600000 in
theorem modes_ten (s : ByteArray) (hs : s.size ≤ 200) (hs10 : ((s.size : Int) == 10) = true) (hg : good s.data.toList = false) (w : World) :
    Calls Try.prog 4 #[.string s] w fun e w' => e = .returned (.bool true) ∧ Below w.heap.size w w' := by
  have ek : modeK s.data.toList = 0 := by unfold modeK; rw [hg]; rfl
  have em : modeM s.data.toList = 0 := by unfold modeM; rw [hg]; rfl
  have ee : modeE s.data.toList = 15 := by unfold modeE; rw [hg]; rfl
  have MODE := Lib.hid (fun W : World => show Calls Try.prog 11 #[.string s] W fun e w' => e = .returned (.tuple #[.int .i64 0, .int .i64 0, .int .u8 15]) ∧ Below W.heap.size W w' from by have h := mode_any s W; rw [ek, em, ee] at h; exact h)
  have HG := Lib.hid hg
  clear ek em ee hg
  go_enter Try.func4, Try.ntmps4
  go_wp2_with (first | (go_at_call 8; refine (alive_any _).mono ?_; rintro e w1 ⟨rfl, hb⟩; have hB := hb; clear hb) | (go_at_call 11; refine (MODE.out _).mono ?_; rintro e w1 ⟨rfl, hb⟩; replace hB := below_then hB hB.size hb; clear hb))
  go_loopw [6] (fun i wr => ∃ j : Nat, j ≤ 7 ∧ i = .int .i64 ((j : Int) + 1) ∧ Below w.heap.size w wr) (fun i _ => (8 - intOf i).toNat)
  case atStart => exact ⟨0, by omega, rfl, hB⟩
  case round =>
    clear hB
    obtain ⟨j, hj, rfl, hB⟩ := hrel
    by_cases hlt : j < 7
    · obtain ⟨wo, rfl⟩ : ∃ wo : World, wo = wr := ⟨_, rfl⟩
      have hd : decide ((j : Int) + 1 ≤ 7) = true := decide_eq_true (by omega)
      go_wp2
      go_loopw [7] (fun i wr => ∃ m : Nat, m ≤ 4096 ∧ i = .int .i64 (m : Int) ∧ Below w.heap.size w wr) (fun i _ => (4096 - intOf i).toNat)
      case atStart => exact ⟨0, by omega, rfl, hB⟩
      case round =>
        clear hB
        obtain ⟨m, hm, rfl, hB⟩ := hrel
        by_cases hm2 : m < 4096
        · have hne := not_good s HG.out ((j : Int) + 1) (m : Int) (by omega)
          have hl0 := sgl_len ((j : Int) + 1) 0
          have RS := Lib.hid (fun (x y : Int) (W : World) (d : Nat) (os : Array Obj) => Calls.regrown_of (w := W) (d := d) (os := os) (ref_signs x y _))
          go_upto_region 16 with (fail)
          go_cut [79] (fun v wc => v = .bool false ∧ Below w.heap.size w wc)
          case first =>
            have hs0 : 0 < s.size := by have := beq_iff_eq.1 hs10; omega
            have hx : ∀ h : 0 < (⟨(sgl ((j : Int) + 1) 0).toArray⟩ : ByteArray).size, (((⟨(sgl ((j : Int) + 1) 0).toArray⟩ : ByteArray)[0]'h).toNat : Int) = ((kc ((j : Int) + 1)).toNat : Int) := fun h => rfl
            cases hq : (((kc ((j : Int) + 1)).toNat : Int) == ((s[0]'hs0).toNat : Int)) with
            | false =>
              refine wp_region_quiet_below (by kernel_rfl) (by kernel_rfl) ?_
              repeat (quiet_step (exact RS.out _ _ _ _ _))
              refine wpQuiet_nil ?_
              intro _ hw'
              obtain ⟨⟨dq, osq⟩, hw''⟩ := hw'
              subst hw''
              go_wp2
              go_meet
              case rel => exact ⟨rfl, below_then hB hB.size (below_regrown _ dq osq)⟩
            | true =>
              refine wp_region_quiet_below (by kernel_rfl) (by kernel_rfl) ?_
              repeat (quiet_step (exact RS.out _ _ _ _ _))
              refine wpQuiet_nil ?_
              intro _ hw'
              obtain ⟨⟨dq, osq⟩, hw''⟩ := hw'
              subst hw''
              go_wp2
              go_meet
              case rel => exact ⟨rfl, below_then hB hB.size (below_regrown _ dq osq)⟩
          case rest =>
            obtain ⟨rfl, hB⟩ := hcut
            go_wp2
            go_roundw
            case rel => exact ⟨m + 1, by omega, by go_num, hB⟩
            case measure => simp [intOf]; omega
        · obtain rfl : m = 4096 := by omega
          go_wp2
          go_roundw
          case rel => exact ⟨j + 1, by omega, by go_num, hB⟩
          case measure => simp [intOf]; omega
    · obtain rfl : j = 7 := by omega
      go_wp2
      go_ret
      exact ⟨rfl, hB⟩
theorem modes_far (s : ByteArray) (hs : 200 < s.size) (w : World) :
    Calls Try.prog 4 #[.string s] w fun e w' => e = .returned (.bool true) ∧ Below w.heap.size w w' := by
  go_enter Try.func4, Try.ntmps4
  go_wp2_with (go_at_call 8; refine (alive_any _).mono ?_; rintro e w1 ⟨rfl, hb⟩; have hB := hb; clear hb)
  go_ret
  exact ⟨rfl, hB⟩
theorem modes_any (s : ByteArray) (w : World) :
    Calls Try.prog 4 #[.string s] w fun e w' => e = .returned (.bool true) ∧ Below w.heap.size w w' := by
  by_cases hs : s.size ≤ 200
  · cases hg : good s.data.toList with
    | true => exact modes_good s hs hg w
    | false =>
      cases h10 : ((s.size : Int) == 10) with
      | true => exact modes_ten s hs h10 hg w
      | false => exact modes_not s hs h10 hg w
  · exact modes_far s (by omega) w
end Go.Proofs.Ytnigmpkflmanoaa.Sg
