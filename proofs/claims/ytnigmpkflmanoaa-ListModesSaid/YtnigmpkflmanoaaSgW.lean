/- The walk of list.Signs: it returns the ten signs of a kind and a mode. No condition. -/
import Derived.Test.YtnigmpkflmanoaaRows
import Derived.WalkKit
import Derived.WalkSpells
import Derived.Lib.Hide
import Derived.WalkLawsBesides
import Derived.Test.YtnigmpkflmanoaaWMore
import Derived.Test.YtnigmpkflmanoaaSigP
namespace Go.Proofs.Ytnigmpkflmanoaa.Sg
open Go.RowKit Go.Proofs.YtnigmpkflmanoaaW.PrintWords Go.Proofs.YtnigmpkflmanoaaW.PrintLast Go.Proofs.YtnigmpkflmanoaaW.PrintMore
open Go.Proofs.Ytnigmpkflmanoaa.Sig
theorem info5 : (Try.prog.info? 5).map (fun i => (i.zero, i.size, i.bytes)) = some (some (.int .u8 0), 1, 1) := by kernel_rfl

theorem i64_and1 (x : Int) : bits .and .i64 x 1 = x % 2 := by
  show IntKind.i64.wrap ((BitVec.ofInt 64 x &&& BitVec.ofInt 64 1).toNat : Int) = _
  rw [BitVec.toNat_and, BitVec.toNat_ofInt]
  have h1 : (BitVec.ofInt 64 1).toNat = 1 := by decide
  rw [h1, nat_mask1, IntKind.wrap_i64]
  omega
theorem emod_bit (m : Int) (i d : Nat) : (m % (2 ^ (i + d + 1) : Nat)) / (2 ^ i : Nat) % 2 = m / (2 ^ i : Nat) % 2 := by
  have e : ((2 ^ (i + d + 1) : Nat) : Int) = ((2 ^ i : Nat) : Int) * (2 * ((2 ^ d : Nat) : Int)) := by
    rw [show 2 ^ (i + d + 1) = 2 ^ i * (2 * 2 ^ d) from by rw [Nat.pow_succ, Nat.pow_add, Nat.mul_assoc, Nat.mul_comm (2 ^ d) 2]]
    simp
  have hp : (0 : Int) < ((2 ^ i : Nat) : Int) := by exact_mod_cast Nat.two_pow_pos i
  have hm : m % ((2 ^ (i + d + 1) : Nat) : Int) = m - ((2 ^ i : Nat) : Int) * (2 * ((2 ^ d : Nat) : Int) * (m / ((2 ^ (i + d + 1) : Nat) : Int))) := by
    rw [Int.emod_def, e, Int.mul_assoc]
  rw [hm, Int.sub_eq_add_neg, ← Int.mul_neg, Int.add_mul_ediv_left _ _ (by omega)]
  rw [Int.mul_assoc, ← Int.mul_neg, Int.add_mul_emod_self_left]
/-- the bit that the text asks, and the bit of the lowest twelve. -/
theorem bit_of (m : Int) (i : Nat) (hi : i < 12) : (bits .and .i64 (m / 2 ^ i) 1 == 1) = bi (nn m) i := by
  rw [i64_and1]
  unfold bi nn
  have h := emod_bit m i (11 - i)
  rw [show i + (11 - i) + 1 = 12 from by omega] at h
  have e2 : ((2 ^ i : Nat) : Int) = (2 : Int) ^ i := by simp
  rw [e2] at h
  rw [← h]
  have h0 : 0 ≤ m % 4096 := by omega
  obtain ⟨q, hq⟩ := Int.eq_ofNat_of_zero_le h0
  rw [show ((2 ^ 12 : Nat) : Int) = 4096 from rfl, hq, Int.toNat_natCast, ← e2]
  have : ((q : Int) / ((2 ^ i : Nat) : Int) % 2) = ((q / 2 ^ i % 2 : Nat) : Int) := by simp
  rw [this]
  rw [Bool.eq_iff_iff]
  simp only [beq_iff_eq]
  omega
theorem bit_of0 (m : Int) (i : Nat) (hi : i < 12) : (bits .and .i64 (m / 2 ^ i) 1 == 0) = !bi (nn m) i := by
  rw [← bit_of m i hi, i64_and1]
  have : m / 2 ^ i % 2 = 0 ∨ m / 2 ^ i % 2 = 1 := by omega
  rcases this with h | h <;> rw [h] <;> rfl

def pre (k m : Int) (j : Nat) : List Int := ((kc k).toNat : Int) :: ((List.range j).map fun i => ((sg0 (nn m) i).toNat : Int))
theorem pre_succ (k m : Int) (j : Nat) : pre k m (j + 1) = pre k m j ++ [((sg0 (nn m) j).toNat : Int)] := by simp [pre, List.range_succ]
theorem pre_len (k m : Int) (j : Nat) : (pre k m j).length = j + 1 := by simp [pre]
def mid (k m : Int) (i : Nat) : List Int := ((kc k).toNat : Int) :: ((List.range 9).map fun p => ((if p / 3 < i then sg (nn m) p else sg0 (nn m) p).toNat : Int))
theorem mid_len (k m : Int) (j : Nat) : (mid k m j).length = 10 := by simp [mid]
theorem mid_zero (k m : Int) : mid k m 0 = pre k m 9 := by simp [mid, pre]
theorem mid_off (k m : Int) (i : Nat) (hi : i < 3) (h : bi (nn m) (11 - i) = false) : mid k m (i + 1) = mid k m i := by
  have hc : i = 0 ∨ i = 1 ∨ i = 2 := by omega
  rcases hc with rfl | rfl | rfl <;> simp [mid, sg, List.range_succ] at h ⊢ <;> simp [h]
def onc (n i : Nat) : Int := if bi n (8 - (3 * i + 2)) then (([115, 115, 116].getD i 0 : Nat) : Int) else (([83, 83, 84].getD i 0 : Nat) : Int)
theorem mid_on (k m : Int) (i : Nat) (hi : i < 3) (h : bi (nn m) (11 - i) = true) : mid k m (i + 1) = (mid k m i).set (3 * i + 3) (onc (nn m) i) := by
  have hc : i = 0 ∨ i = 1 ∨ i = 2 := by omega
  rcases hc with rfl | rfl | rfl <;> simp [mid, sg, onc, List.range_succ] at h ⊢ <;> simp [h] <;> split <;> simp_all
theorem mid_at (k m : Int) (i : Nat) (hi : i < 3) : (mid k m i).getD (3 * i + 3) 0 = if bi (nn m) (8 - (3 * i + 2)) then 120 else 45 := by
  have hc : i = 0 ∨ i = 1 ∨ i = 2 := by omega
  rcases hc with rfl | rfl | rfl <;> simp [mid, sg0, List.range_succ] <;> split <;> rfl
theorem mid_end (k m : Int) : mid k m 3 = (sgl k m).map fun c => (c.toNat : Int) := by
  simp [mid, sgl, body, List.range_succ]
theorem str_sgl (l : List UInt8) : strOfNums (l.map fun c => (c.toNat : Int)) = ⟨l.toArray⟩ := by
  unfold strOfNums
  rw [List.map_map]
  congr 2
  exact (List.map_congr_left (fun c _ => by simp)).trans (List.map_id l)
theorem mid_nums (k m : Int) (i : Nat) : nums .u8 (mid k m i) = (mid k m i).map (.int .u8 ·) := rfl
theorem kinds_at (k : Int) (h : 0 ≤ k ∧ k ≤ 7) : ∀ h : (k).toNat < (⟨#[63, 45, 104, 108, 99, 98, 100, 112]⟩ : ByteArray).size, (((⟨#[63, 45, 104, 108, 99, 98, 100, 112]⟩ : ByteArray)[k.toNat]'h).toNat : Int) = ((kc k).toNat : Int) := by
  have hc : k = 0 ∨ k = 1 ∨ k = 2 ∨ k = 3 ∨ k = 4 ∨ k = 5 ∨ k = 6 ∨ k = 7 := by omega
  rcases hc with rfl | rfl | rfl | rfl | rfl | rfl | rfl | rfl <;> intro h <;> rfl
theorem kc_kn (k : Int) : kc (kn k) = kc k := by
  unfold kn
  split
  · rfl
  · rename_i h; rw [kc_out k h]; rfl
theorem kn_zero (k : Int) (h : ¬ (1 ≤ k ∧ k ≤ 7)) : decide (kn k = 0) = true := decide_eq_true (by unfold kn; rw [if_neg h])
theorem kn_one (k : Int) (h : 1 ≤ k ∧ k ≤ 7) : decide (kn k = 0) = false := decide_eq_false (by unfold kn; rw [if_pos h]; omega)
theorem kn_same (k : Int) (h : ¬ kn k = 0) : kn k = k := by
  unfold kn at h ⊢
  split
  · rfl
  · rename_i h'; rw [if_neg h'] at h; exact absurd rfl h
theorem rwx_at (n j : Nat) (hj : j < 9) (hb : bi n (8 - j) = true) : ∀ h : ((8 - (j : Int)) % 3).toNat < (⟨#[120, 119, 114]⟩ : ByteArray).size, (((⟨#[120, 119, 114]⟩ : ByteArray)[((8 - (j : Int)) % 3).toNat]'h).toNat : Int) = ((sg0 n j).toNat : Int) := by
  unfold sg0
  rw [if_pos hb]
  have hc : j = 0 ∨ j = 1 ∨ j = 2 ∨ j = 3 ∨ j = 4 ∨ j = 5 ∨ j = 6 ∨ j = 7 ∨ j = 8 := by omega
  rcases hc with rfl | rfl | rfl | rfl | rfl | rfl | rfl | rfl | rfl <;> intro h <;> rfl
theorem sg0_off (n j : Nat) (hb : bi n (8 - j) = false) : sg0 n j = 45 := by unfold sg0; rw [hb]; rfl

theorem mid_step {k m : Int} {B g cap : Nat} (W : World) {i : Nat} (hown : W.ownsRow B 5 1 (.slice (some ⟨g, 0, none⟩) 10 cap) 10 (nums .u8 (mid k m i))) (hi : i < 3) :
    W.cell? ⟨g, 3 * i + 3, none⟩ = some (.int .u8 (if bi (nn m) (8 - (3 * i + 2)) then 120 else 45)) ∧ W.frozen? ⟨g, 3 * i + 3, none⟩ = false ∧
    (bi (nn m) (11 - i) = true → (W.setCell ⟨g, 3 * i + 3, none⟩ (.int .u8 (onc (nn m) i))).ownsRow B 5 1 (.slice (some ⟨g, 0, none⟩) 10 cap) 10 (nums .u8 (mid k m (i + 1)))) := by
  obtain ⟨h1, h2⟩ := own_at hown ((3 * i + 3 : Nat) : Int) (by omega) (by omega)
  rw [Int.toNat_natCast] at h1 h2
  refine ⟨?_, h2, fun h => ?_⟩
  · rw [h1, ← mid_at k m i hi]; rfl
  · have := (own_store hown ((3 * i + 3 : Nat) : Int) (onc (nn m) i)).1
    rw [Int.toNat_natCast, ← mid_on k m i hi h] at this
    exact this

set_option maxRecDepth 100000 in
set_option maxHeartbeats 3200000 in
theorem signs_any (k m : Int) (w : World) :
    Calls Try.prog 9 #[.int .i64 k, .int .i64 m] w fun e w' => e = .returned (.string ⟨(sgl k m).toArray⟩) ∧ Below w.heap.size w w' := by
  go_enter Try.func9, Try.ntmps9
  go_upto_region 1 with (fail)
  go_cut [16] (fun v wc => ∃ b : Bool, v = .bool b ∧ b = decide (kn k = 0) ∧ w = wc)
  case first =>
    by_cases c1 : k < 1
    · go_wp2
      go_meet
      case rel => exact ⟨_, rfl, (kn_zero k (by omega)).symm, rfl⟩
    · by_cases c2 : 7 < k
      · go_wp2
        go_meet
        case rel => exact ⟨_, rfl, (kn_zero k (by omega)).symm, rfl⟩
      · go_wp2
        go_meet
        case rel => exact ⟨_, rfl, (kn_one k (by omega)).symm, rfl⟩
  case rest =>
  obtain ⟨b, rfl, hb, rfl⟩ := hcut
  have Hb := Lib.hid hb
  clear hb
  go_upto_if 16 with (fail)
  go_cut [0] (fun v0 wc1 => v0 = .int .i64 (kn k) ∧ w = wc1)
  case first =>
    cases b with
    | true =>
      go_wp2
      go_meet
      case rel => exact ⟨by rw [of_decide_eq_true Hb.out.symm], rfl⟩
    | false =>
      go_wp2
      go_meet
      case rel => exact ⟨by rw [kn_same k (of_decide_eq_false Hb.out.symm)], rfl⟩
  case rest =>
    obtain ⟨rfl, rfl⟩ := hcut
    have hkn : 0 ≤ kn k ∧ kn k ≤ 7 := by unfold kn; split <;> omega
    have hk := kinds_at (kn k) hkn
    rw [kc_kn] at hk
    obtain ⟨hk0, hk7⟩ := hkn
    go_wp2
    clear hk
    go_loopw [5, 6] (fun b i wr => ∃ j : Nat, j ≤ 9 ∧ i = .int .i64 (8 - (j : Int)) ∧ wr.ownsRow w.heap.size 5 1 b (pre k m j).length (nums .u8 (pre k m j)) ∧ Below w.heap.size w wr) (fun _ i _ => (intOf i + 1).toNat)
    case atStart => exact ⟨0, by omega, rfl, own_lit w _ 5 .u8 [((kc k).toNat : Int)] (Nat.le_refl _) (by simp), (Below.refl _ _).alloc (Nat.le_refl _) _⟩
    case round =>
      obtain ⟨j, hj, rfl, hown, hbel⟩ := hrel
      have hsz := hbel.size
      have hl := pre_len k m j
      by_cases hlt : j < 9
      · cases hb : bi (nn m) (8 - j) with
        | true =>
          have q := bit_of m (8 - j) (by omega)
          rw [hb] at q
          have hx := rwx_at (nn m) j hlt hb
          have Hb := Lib.hid hb
          have Hl := Lib.hid hl
          clear hb hl
          go_wp2_with (at_builtin; refine print_append_num w.heap.size rfl (.tmp 32) (.tmp 34) 41 5 .u8 1 rfl Try.underlying41 info5 (by omega) u5 (pre k m j) _ rfl rfl hown hbel hsz (by rw [Hl.out]; omega) ?_; intro v1 w1 hown1 hbel1 _ _)
          rw [← pre_succ] at hown1
          go_roundw
          case rel => exact ⟨j + 1, by omega, by go_num, hown1, hbel1⟩
          case measure => simp [intOf]; omega
        | false =>
          have q := bit_of m (8 - j) (by omega)
          rw [hb] at q
          have hx := sg0_off (nn m) j hb
          have Hb := Lib.hid hb
          have Hl := Lib.hid hl
          have Hx := Lib.hid hx
          clear hb hl hx
          go_wp2_with (at_builtin; refine print_append_num w.heap.size rfl (.tmp 32) (.tmp 34) 41 5 .u8 1 rfl Try.underlying41 info5 (by omega) u5 (pre k m j) _ rfl rfl hown hbel hsz (by rw [Hl.out]; omega) ?_; intro v1 w1 hown1 hbel1 _ _)
          have e : pre k m j ++ [45] = pre k m (j + 1) := by rw [pre_succ, Hx.out]; rfl
          rw [e] at hown1
          go_roundw
          case rel => exact ⟨j + 1, by omega, by go_num, hown1, hbel1⟩
          case measure => simp [intOf]; omega
      · obtain rfl : j = 9 := by omega
        rw [← mid_zero, mid_len] at hown
        obtain ⟨g, cap, rfl, hgb, hgl⟩ := hown.form (by omega)
        clear hl
        have i0 : ∀ w, (Instr.index 42 (.agg #[.string ⟨#[115, 83]⟩, .string ⟨#[115, 83]⟩, .string ⟨#[116, 84]⟩]) (.int .i64 0)).run Try.prog w = .ok (.string ⟨#[115, 83]⟩) w := fun _ => by kernel_rfl
        have i1 : ∀ w, (Instr.index 42 (.agg #[.string ⟨#[115, 83]⟩, .string ⟨#[115, 83]⟩, .string ⟨#[116, 84]⟩]) (.int .i64 1)).run Try.prog w = .ok (.string ⟨#[115, 83]⟩) w := fun _ => by kernel_rfl
        have i2 : ∀ w, (Instr.index 42 (.agg #[.string ⟨#[115, 83]⟩, .string ⟨#[115, 83]⟩, .string ⟨#[116, 84]⟩]) (.int .i64 2)).run Try.prog w = .ok (.string ⟨#[116, 84]⟩) w := fun _ => by kernel_rfl
        go_wp2_with fail
        obtain ⟨wo, rfl⟩ : ∃ wo : World, wo = wr := ⟨_, rfl⟩
        go_loopw [37, 8, 9, 10] (fun i _ _ _ wr => ∃ j : Nat, j ≤ 3 ∧ i = .int .i64 (j : Int) ∧ wr.ownsRow w.heap.size 5 1 (.slice (some ⟨g, 0, none⟩) 10 cap) 10 (nums .u8 (mid k m j)) ∧ Below w.heap.size w wr) (fun i _ _ _ _ => (3 - intOf i).toNat)
        case atStart => exact ⟨0, by omega, rfl, hown, hbel⟩
        case round =>
          clear hown hbel
          obtain ⟨j, hj, rfl, hown, hbel⟩ := hrel
          by_cases hlt : j < 3
          · obtain ⟨F1, F2, F3⟩ := mid_step wr hown hlt
            have hc : j = 0 ∨ j = 1 ∨ j = 2 := by omega
            cases hb : bi (nn m) (11 - j) with
            | false =>
              have e := mid_off k m j hlt hb
              rw [← e] at hown
              have E := Lib.hid e
              clear e F1 F2 F3
              rcases hc with rfl | rfl | rfl
              · have hq : (bits BinOp.and IntKind.i64 (m / 2048) 1 == 0) = true := by have := bit_of0 m 11 (by omega); rw [show bi (nn m) 11 = false from hb] at this; exact this
                clear hb
                go_wp2
                go_roundw
                case rel => exact ⟨1, by omega, by go_num, hown, hbel⟩
                case measure => simp [intOf]
              · have hq : (bits BinOp.and IntKind.i64 (m / 1024) 1 == 0) = true := by have := bit_of0 m 10 (by omega); rw [show bi (nn m) 10 = false from hb] at this; exact this
                clear hb
                go_wp2
                go_roundw
                case rel => exact ⟨2, by omega, by go_num, hown, hbel⟩
                case measure => simp [intOf]
              · have hq : (bits BinOp.and IntKind.i64 (m / 512) 1 == 0) = true := by have := bit_of0 m 9 (by omega); rw [show bi (nn m) 9 = false from hb] at this; exact this
                clear hb
                go_wp2
                go_roundw
                case rel => exact ⟨3, by omega, by go_num, hown, hbel⟩
                case measure => simp [intOf]
            | true =>
              cases hb2 : bi (nn m) (8 - (3 * j + 2)) <;> rcases hc with rfl | rfl | rfl
              · have hc : wr.cell? ⟨g, 3, none⟩ = some (.int .u8 45) := by have := F1; rw [hb2] at this; exact this
                have hf : wr.frozen? ⟨g, 3, none⟩ = false := F2
                have F4 : (wr.setCell ⟨g, 3, none⟩ (.int .u8 83)).ownsRow w.heap.size 5 1 (.slice (some ⟨g, 0, none⟩) 10 cap) 10 (nums .u8 (mid k m 1)) := by have := F3 hb; unfold onc at this; rw [hb2] at this; exact this
                have hq : (bits BinOp.and IntKind.i64 (m / 2048) 1 == 0) = false := by have := bit_of0 m 11 (by omega); rw [show bi (nn m) 11 = true from hb] at this; exact this
                clear F1 F2 F3 hb hb2 hown
                go_wp2
                go_roundw
                case rel => exact ⟨1, by omega, by go_num, F4, hbel.setCell hgb _⟩
                case measure => simp [intOf]
              · have hc : wr.cell? ⟨g, 6, none⟩ = some (.int .u8 45) := by have := F1; rw [hb2] at this; exact this
                have hf : wr.frozen? ⟨g, 6, none⟩ = false := F2
                have F4 : (wr.setCell ⟨g, 6, none⟩ (.int .u8 83)).ownsRow w.heap.size 5 1 (.slice (some ⟨g, 0, none⟩) 10 cap) 10 (nums .u8 (mid k m 2)) := by have := F3 hb; unfold onc at this; rw [hb2] at this; exact this
                have hq : (bits BinOp.and IntKind.i64 (m / 1024) 1 == 0) = false := by have := bit_of0 m 10 (by omega); rw [show bi (nn m) 10 = true from hb] at this; exact this
                clear F1 F2 F3 hb hb2 hown
                go_wp2
                go_roundw
                case rel => exact ⟨2, by omega, by go_num, F4, hbel.setCell hgb _⟩
                case measure => simp [intOf]
              · have hc : wr.cell? ⟨g, 9, none⟩ = some (.int .u8 45) := by have := F1; rw [hb2] at this; exact this
                have hf : wr.frozen? ⟨g, 9, none⟩ = false := F2
                have F4 : (wr.setCell ⟨g, 9, none⟩ (.int .u8 84)).ownsRow w.heap.size 5 1 (.slice (some ⟨g, 0, none⟩) 10 cap) 10 (nums .u8 (mid k m 3)) := by have := F3 hb; unfold onc at this; rw [hb2] at this; exact this
                have hq : (bits BinOp.and IntKind.i64 (m / 512) 1 == 0) = false := by have := bit_of0 m 9 (by omega); rw [show bi (nn m) 9 = true from hb] at this; exact this
                clear F1 F2 F3 hb hb2 hown
                go_wp2
                go_roundw
                case rel => exact ⟨3, by omega, by go_num, F4, hbel.setCell hgb _⟩
                case measure => simp [intOf]
              · have hc : wr.cell? ⟨g, 3, none⟩ = some (.int .u8 120) := by have := F1; rw [hb2] at this; exact this
                have hf : wr.frozen? ⟨g, 3, none⟩ = false := F2
                have F4 : (wr.setCell ⟨g, 3, none⟩ (.int .u8 115)).ownsRow w.heap.size 5 1 (.slice (some ⟨g, 0, none⟩) 10 cap) 10 (nums .u8 (mid k m 1)) := by have := F3 hb; unfold onc at this; rw [hb2] at this; exact this
                have hq : (bits BinOp.and IntKind.i64 (m / 2048) 1 == 0) = false := by have := bit_of0 m 11 (by omega); rw [show bi (nn m) 11 = true from hb] at this; exact this
                clear F1 F2 F3 hb hb2 hown
                go_wp2
                go_roundw
                case rel => exact ⟨1, by omega, by go_num, F4, hbel.setCell hgb _⟩
                case measure => simp [intOf]
              · have hc : wr.cell? ⟨g, 6, none⟩ = some (.int .u8 120) := by have := F1; rw [hb2] at this; exact this
                have hf : wr.frozen? ⟨g, 6, none⟩ = false := F2
                have F4 : (wr.setCell ⟨g, 6, none⟩ (.int .u8 115)).ownsRow w.heap.size 5 1 (.slice (some ⟨g, 0, none⟩) 10 cap) 10 (nums .u8 (mid k m 2)) := by have := F3 hb; unfold onc at this; rw [hb2] at this; exact this
                have hq : (bits BinOp.and IntKind.i64 (m / 1024) 1 == 0) = false := by have := bit_of0 m 10 (by omega); rw [show bi (nn m) 10 = true from hb] at this; exact this
                clear F1 F2 F3 hb hb2 hown
                go_wp2
                go_roundw
                case rel => exact ⟨2, by omega, by go_num, F4, hbel.setCell hgb _⟩
                case measure => simp [intOf]
              · have hc : wr.cell? ⟨g, 9, none⟩ = some (.int .u8 120) := by have := F1; rw [hb2] at this; exact this
                have hf : wr.frozen? ⟨g, 9, none⟩ = false := F2
                have F4 : (wr.setCell ⟨g, 9, none⟩ (.int .u8 116)).ownsRow w.heap.size 5 1 (.slice (some ⟨g, 0, none⟩) 10 cap) 10 (nums .u8 (mid k m 3)) := by have := F3 hb; unfold onc at this; rw [hb2] at this; exact this
                have hq : (bits BinOp.and IntKind.i64 (m / 512) 1 == 0) = false := by have := bit_of0 m 9 (by omega); rw [show bi (nn m) 9 = true from hb] at this; exact this
                clear F1 F2 F3 hb hb2 hown
                go_wp2
                go_roundw
                case rel => exact ⟨3, by omega, by go_num, F4, hbel.setCell hgb _⟩
                case measure => simp [intOf]
          · obtain rfl : j = 3 := by omega
            have hcv := own_string (P := Try.prog) Try.underlying41 Try.underlying5 Try.underlying9 hown
            rw [mid_end, str_sgl] at hcv
            go_wp2
            go_ret
            exact ⟨rfl, hbel⟩
end Go.Proofs.Ytnigmpkflmanoaa.Sg
