/- What the printed oakumref23.bit and oakumref23.Signs come to: the ten signs. No condition. -/
import Derived.Test.YtnigmpkflmanoaaSgW
import Derived.Test.YtnigmpkflmanoaaPListSignsx1
namespace Go.Proofs.Ytnigmpkflmanoaa.Sg
open Go.RowKit Go.Proofs.YtnigmpkflmanoaaW.PrintWords Go.Proofs.YtnigmpkflmanoaaW.PrintLast Go.Proofs.YtnigmpkflmanoaaW.PrintMore
open Go.Proofs.Ytnigmpkflmanoaa.Sig Go.Proofs.Ytnigmpkflmanoaa.PListSigns
theorem bit_loop (d : Nat) : ∀ (k : Nat) (x1 x5 x6 : Int), 0 ≤ x6 → x1 ≤ 100 → x1 - x6 = d → d < k → 0 ≤ x5 → x5 < 4096 →
    oakumref23_bit.l0 k x1 x5 x6 = some (x5.toNat / 2 ^ d % 2 == 1) := by
  induction d with
  | zero =>
    intro k x1 x5 x6 h0 h1 h2 h3 h4 h5
    obtain ⟨k, rfl⟩ : ∃ m, k = m + 1 := ⟨k - 1, by omega⟩
    simp only [oakumref23_bit.l0]
    rw [if_neg (by omega)]
    congr 1
    rw [Int.tmod_eq_emod_of_nonneg h4, Bool.eq_iff_iff, beq_iff_eq, beq_iff_eq]
    simp
    omega
  | succ d ih =>
    intro k x1 x5 x6 h0 h1 h2 h3 h4 h5
    obtain ⟨k, rfl⟩ : ∃ m, k = m + 1 := ⟨k - 1, by omega⟩
    simp only [oakumref23_bit.l0]
    have e1 : wrap64 (Int.tdiv x5 2) = x5 / 2 := by rw [Int.tdiv_eq_ediv_of_nonneg h4]; unfold wrap64; omega
    have e2 : wrap64 (x6 + 1) = x6 + 1 := by unfold wrap64; omega
    rw [if_pos (by omega), e1, e2, ih k x1 (x5 / 2) (x6 + 1) (by omega) h1 (by omega) (by omega) (by omega) (by omega)]
    congr 2
    rw [show (x5 / 2).toNat = x5.toNat / 2 from by omega, Nat.div_div_eq_div_mul, show 2 * 2 ^ d = 2 ^ (d + 1) from by rw [Nat.pow_succ, Nat.mul_comm]]
theorem bit_is (k : Nat) (m i : Int) (h0 : 0 ≤ i) (h1 : i ≤ 11) (hk : 20 ≤ k) : oakumref23_bit.f k m i = some (bi (nn m) i.toNat) := by
  unfold oakumref23_bit.f
  obtain ⟨k, rfl⟩ : ∃ m, k = m + 1 := ⟨k - 1, by omega⟩
  have hm : Int.tmod m 4096 = if 0 ≤ m ∨ m % 4096 = 0 then m % 4096 else m % 4096 - 4096 := by
    rw [Int.tmod_eq_emod]
    split <;> split <;> first | omega | simp_all
  have hw : wrap64 (Int.tmod m 4096 + 4096) = Int.tmod m 4096 + 4096 := by rw [hm]; unfold wrap64; split <;> omega
  rw [hw]
  simp only [oakumref23_bit.j0]
  unfold bi nn
  split
  · rename_i hl
    rw [bit_loop i.toNat k i _ 0 (by omega) (by omega) (by omega) (by omega) (by rw [hm]; split <;> omega) (by omega)]
    have e : (Int.tmod m 4096 + 4096).toNat = (m % 4096).toNat := by
      rw [hm] at hl ⊢
      split at hl <;> omega
    rw [e]
  · rename_i hl
    rw [bit_loop i.toNat k i _ 0 (by omega) (by omega) (by omega) (by omega) (by omega) (by rw [hm]; split <;> omega)]
    have e : (Int.tmod m 4096).toNat = (m % 4096).toNat := by
      rw [hm] at hl ⊢
      split at hl <;> split <;> omega
    rw [e]
def app (x : ByteArray) (c : UInt8) : ByteArray := x ++ ⟨#[c]⟩
theorem app_size (x : ByteArray) (c : UInt8) : (app x c).size = x.size + 1 := by simp [app]; rfl
theorem one_size (c : UInt8) : (⟨#[c]⟩ : ByteArray).size = 1 := rfl
theorem wl (n : Int) (h : 0 ≤ n ∧ n ≤ 100) : wrap64 n = n := by unfold wrap64; omega
theorem step (k : Nat) (m : Int) (x : ByteArray) (i : Nat) (hi : i < 9) (hk : 20 ≤ k) (hx : x.size ≤ 100) :
    oakumref23_Signs.l0 (k + 3) m x i = oakumref23_Signs.l0 k m (app x (sg (nn m) i)) ((i + 1 : Nat) : Int) := by
  have hb1 := bit_is (k + 2) m (8 - i) (by omega) (by omega) (by omega)
  have hb2 := bit_is (k + 1) m (11 - (i / 3 : Nat)) (by omega) (by omega) (by omega)
  have e8 : wrap64 (8 - (i : Int)) = 8 - i := wl _ (by omega)
  have ed : wrap64 (Int.tdiv (i : Int) 3) = ((i / 3 : Nat) : Int) := by rw [Int.tdiv_eq_ediv_of_nonneg (by omega), wl _ (by omega)]; omega
  have e11 : wrap64 (11 - ((i / 3 : Nat) : Int)) = 11 - ((i / 3 : Nat) : Int) := wl _ (by omega)
  have em : Int.tmod (i : Int) 3 = ((i % 3 : Nat) : Int) := by rw [Int.tmod_eq_emod_of_nonneg (by omega)]; omega
  have e3 : wrap64 (3 + ((i / 3 : Nat) : Int)) = 3 + ((i / 3 : Nat) : Int) := wl _ (by omega)
  have e1 : wrap64 ((i : Int) + 1) = ((i + 1 : Nat) : Int) := by rw [wl _ (by omega)]; omega
  simp only [oakumref23_Signs.l0, oakumref23_Signs.j3, oakumref23_Signs.j4]
  rw [if_pos (by omega), e8, hb1]
  simp only [ed, em, e11, e3, e1, hb2, Option.bind_some]
  unfold app sg sg0
  rw [show (8 - (i : Int)).toNat = 8 - i from by omega, show (11 - ((i / 3 : Nat) : Int)).toNat = 11 - i / 3 from by omega]
  generalize bi (nn m) (8 - i) = b1
  generalize bi (nn m) (11 - i / 3) = b2
  have hc : i = 0 ∨ i = 1 ∨ i = 2 ∨ i = 3 ∨ i = 4 ∨ i = 5 ∨ i = 6 ∨ i = 7 ∨ i = 8 := by omega
  clear hb1 hb2 e8 ed e11 em e3 e1
  have hs : x.size + 1 ≤ 9223372036854775807 := by omega
  rcases hc with rfl | rfl | rfl | rfl | rfl | rfl | rfl | rfl | rfl <;> cases b1 <;> cases b2 <;> simp [rdOf] <;> (first | rfl | exact fun h => absurd h (by rw [one_size]; omega))
theorem bytes_eq {a b : ByteArray} (h : a.data.toList = b.data.toList) : a = b := by
  cases a with | mk a => cases b with | mk b => exact congrArg _ (Array.toList_inj.1 h)
theorem nine (k : Nat) (m : Int) (c : UInt8) (hk : 20 ≤ k) : oakumref23_Signs.l0 (k + 28) m ⟨#[c]⟩ 0 = some ⟨(c :: body (nn m)).toArray⟩ := by
  have s0 := step (k + 25) m ⟨#[c]⟩ 0 (by omega) (by omega) (by rw [one_size]; omega)
  have s1 := step (k + 22) m (app ⟨#[c]⟩ (sg (nn m) 0)) 1 (by omega) (by omega) (by simp only [app_size, one_size]; omega)
  have s2 := step (k + 19) m (app (app ⟨#[c]⟩ (sg (nn m) 0)) (sg (nn m) 1)) 2 (by omega) (by omega) (by simp only [app_size, one_size]; omega)
  have s3 := step (k + 16) m (app (app (app ⟨#[c]⟩ (sg (nn m) 0)) (sg (nn m) 1)) (sg (nn m) 2)) 3 (by omega) (by omega) (by simp only [app_size, one_size]; omega)
  have s4 := step (k + 13) m (app (app (app (app ⟨#[c]⟩ (sg (nn m) 0)) (sg (nn m) 1)) (sg (nn m) 2)) (sg (nn m) 3)) 4 (by omega) (by omega) (by simp only [app_size, one_size]; omega)
  have s5 := step (k + 10) m (app (app (app (app (app ⟨#[c]⟩ (sg (nn m) 0)) (sg (nn m) 1)) (sg (nn m) 2)) (sg (nn m) 3)) (sg (nn m) 4)) 5 (by omega) (by omega) (by simp only [app_size, one_size]; omega)
  have s6 := step (k + 7) m (app (app (app (app (app (app ⟨#[c]⟩ (sg (nn m) 0)) (sg (nn m) 1)) (sg (nn m) 2)) (sg (nn m) 3)) (sg (nn m) 4)) (sg (nn m) 5)) 6 (by omega) (by omega) (by simp only [app_size, one_size]; omega)
  have s7 := step (k + 4) m (app (app (app (app (app (app (app ⟨#[c]⟩ (sg (nn m) 0)) (sg (nn m) 1)) (sg (nn m) 2)) (sg (nn m) 3)) (sg (nn m) 4)) (sg (nn m) 5)) (sg (nn m) 6)) 7 (by omega) (by omega) (by simp only [app_size, one_size]; omega)
  have s8 := step (k + 1) m (app (app (app (app (app (app (app (app ⟨#[c]⟩ (sg (nn m) 0)) (sg (nn m) 1)) (sg (nn m) 2)) (sg (nn m) 3)) (sg (nn m) 4)) (sg (nn m) 5)) (sg (nn m) 6)) (sg (nn m) 7)) 8 (by omega) (by omega) (by simp only [app_size, one_size]; omega)
  refine s0.trans (s1.trans (s2.trans (s3.trans (s4.trans (s5.trans (s6.trans (s7.trans (s8.trans ?_))))))))
  simp only [oakumref23_Signs.l0]
  rw [if_neg (by decide)]
  congr 1
theorem signs_is (kind m : Int) : oakumref23_Signs.f 60 kind m = some ⟨(sgl kind m).toArray⟩ := by
  unfold oakumref23_Signs.f
  unfold sgl
  by_cases h : 1 ≤ kind ∧ kind ≤ 7
  · rw [if_pos (by omega), decide_eq_true h.2]
    have hc := kc_of kind h
    simp only [oakumref23_Signs.j0, oakumref23_Signs.j1]
    rcases hc with rfl | rfl | rfl | rfl | rfl | rfl | rfl <;> (rw [if_pos trivial, Option.bind_some, wl _ (by omega), if_pos (by omega), if_pos (by simp)]; exact nine 30 m _ (by omega))
  · rw [kc_out kind h]
    have hn := nine 30 m 63 (by omega)
    split
    · rw [decide_eq_false (by omega)]
      simp only [oakumref23_Signs.j0, oakumref23_Signs.j1]
      exact hn
    · simp only [oakumref23_Signs.j0, oakumref23_Signs.j1]
      exact hn
theorem ref_signs (kind m : Int) (w : World) :
    Calls Try.prog 10 #[.int .i64 kind, .int .i64 m] w fun e w' => e = .returned (.string ⟨(sgl kind m).toArray⟩) ∧ Below w.heap.size w w' :=
  oakumref23_Signs.calls 60 kind m _ w (signs_is kind m)
end Go.Proofs.Ytnigmpkflmanoaa.Sg
