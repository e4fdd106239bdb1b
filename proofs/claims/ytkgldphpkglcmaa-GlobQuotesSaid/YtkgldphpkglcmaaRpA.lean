/- strings.Replacer: the Once in it. -/
import Derived.Test.YtkgldphpkglcmaaGlY
import Derived.Conc.MuLone
import Derived.Conc.RwLib
import Derived.Conc.MuData
import Derived.RegionCalls
namespace Go.Proofs.Ytkgldphpkglcmaa.Rp
open Go.RowKit Go.MuLone
abbrev muLink : Go.Conc.Locks.MuLink := { lock := 37, unlock := 38, ilock := 42, iunlock := 43, lockSlow := 52, unlockSlow := 55, disable := 48, enable := 50, acquire := 51, relMerge := 53, cas32 := 49, add32 := 54, tMutex := 70, tIMutex := 68, tPMutex := 98, tPIMutex := 112, tPI32 := 114, tUP := 116, tNoCopy := 62, tU32 := 64 }
theorem muLib : Go.Conc.Locks.MuLib Try.prog muLink :=
  ⟨Try.func37, Try.func38, Try.func42, Try.func43, Try.func48, Try.func50, Try.func51, Try.func53, Try.func49, Try.func54, Try.underlying68, Try.runUnderlying68, Try.sizeOf68, Try.isAgg68, Try.zeroValue68, Try.underlying70, Try.runUnderlying70, Try.sizeOf70, Try.isAgg70, Try.zeroValue70, Try.underlying98, Try.runUnderlying98, Try.sizeOf98, Try.isAgg98, Try.zeroValue98, Try.underlying112, Try.runUnderlying112, Try.sizeOf112, Try.isAgg112, Try.zeroValue112, Try.underlying114, Try.runUnderlying114, Try.sizeOf114, Try.isAgg114, Try.zeroValue114, Try.underlying116, Try.runUnderlying116, Try.sizeOf116, Try.isAgg116, Try.zeroValue116, Try.underlying62, Try.runUnderlying62, Try.sizeOf62, Try.isAgg62, Try.zeroValue62, Try.underlying21, Try.runUnderlying21, Try.sizeOf21, Try.isAgg21, Try.zeroValue21, (by kernel_rfl)⟩
theorem load_done (a : Addr) (x : Int) (w : World) (hc : w.cell? a = some (.int .u32 x)) :
    Calls Try.prog 32 #[.pointer (some a)] w fun e w' => e = .returned (.bool (x != 0)) ∧ w' = w := by
  have hl := run_call_load (P := Try.prog) Try.func36 (by kernel_rfl) (by kernel_rfl) (by kernel_rfl) .u32 (by kernel_rfl) hc
  obtain ⟨b, o, sp⟩ := a
  go_enter Try.func32, Try.ntmps32
  go_wp2
  go_ret
  exact ⟨rfl, rfl⟩
theorem store_deferred (a : Addr) (x : Value) (u : FrameMode) (w : World) (hc : w.cell? a = some x) (hz : w.frozen? a = false) :
    CallsD Try.prog 39 #[.pointer (some a), .bool true] u w fun e u' w' => u' = u ∧ (e = .returned (.tuple #[]) ∧ w' = w.drew.setCell a (.int .u32 1)) := by
  have hc' : w.drew.cell? a = some x := by go_simp
  have hz' : w.drew.frozen? a = false := by go_simp
  have hst := run_call_store (P := Try.prog) Try.func44 (by kernel_rfl) (by kernel_rfl) (by kernel_rfl) (by kernel_rfl) (k := .u32) (y := 1) hc' hz'
  go_enter_d Try.func39, Try.ntmps39
  go_wp2
  go_region_calls
  all_goals (go_end0; exact ⟨rfl, rfl⟩)
/-- what the function that is handed to Do leaves: the Once's own cells as they were. -/
structure Kept (b : Nat) (w w' : World) : Prop where
  c0 : w'.cell? ⟨b, 0, none⟩ = w.cell? ⟨b, 0, none⟩
  c1 : w'.cell? ⟨b, 1, none⟩ = w.cell? ⟨b, 1, none⟩
  f0 : w'.frozen? ⟨b, 0, none⟩ = w.frozen? ⟨b, 0, none⟩
  f1 : w'.frozen? ⟨b, 1, none⟩ = w.frozen? ⟨b, 1, none⟩
set_option maxRecDepth 100000 in
set_option maxHeartbeats 1600000 in
theorem slow_any (b : Nat) (w : World) (R : World → Prop)
    (h0 : w.cell? ⟨b, 0, none⟩ = some (.int .u32 0)) (h1 : w.cell? ⟨b, 1, none⟩ = some (.int .i32 0))
    (f0 : w.frozen? ⟨b, 0, none⟩ = false) (f1 : w.frozen? ⟨b, 1, none⟩ = false)
    (hg : Calls Try.prog 28 #[.pointer (some ⟨b, 0, none⟩)] (w.setCell ⟨b, 1, none⟩ (.int .i32 1)) fun e w' => e = .returned (.tuple #[]) ∧ Kept b (w.setCell ⟨b, 1, none⟩ (.int .i32 1)) w' ∧ R w') :
    Calls Try.prog 33 #[.pointer (some ⟨b, 0, none⟩), .func (.func 28) #[.pointer (some ⟨b, 0, none⟩)] #[]] w fun e w' => e = .returned (.tuple #[]) ∧
      ∃ w1, R w1 ∧ w' = (w1.drew.setCell ⟨b, 0, none⟩ (.int .u32 1)).setCell ⟨b, 1, none⟩ (.int .i32 0) := by
  have hl : (w.setCell ⟨b, 1, none⟩ (.int .i32 1)).cell? ⟨b, 0, none⟩ = some (.int .u32 0) := (World.cell?_setCell_other _ ⟨b, 1, none⟩ ⟨b, 0, none⟩ _ (by simp)).trans h0
  have hl1 : (w.setCell ⟨b, 1, none⟩ (.int .i32 1)).cell? ⟨b, 1, none⟩ = some (.int .i32 1) := World.cell?_setCell_same w _ _ h1
  go_enter_defers Try.func33, Try.ntmps33
  go_wp2_with fail
  refine (lock_free muLib ⟨b, 1, none⟩ _ h1 f1).mono ?_
  rintro e w' ⟨rfl, rfl⟩
  go_wp2_with fail
  refine (load_done ⟨b, 0, none⟩ 0 _ hl).mono ?_
  rintro e w' ⟨rfl, rfl⟩
  go_wp2_with fail
  refine hg.mono ?_
  rintro e w1 ⟨rfl, hk, hR⟩
  have k0 := hk.c0.trans hl
  have k1 := hk.c1.trans hl1
  have kf0 : w1.frozen? ⟨b, 0, none⟩ = false := hk.f0.trans (by simp [f0])
  have kf1 : w1.frozen? ⟨b, 1, none⟩ = false := hk.f1.trans (by simp [f1])
  go_wp2
  refine leaves_cons (f := 39) (args := #[.pointer (some ⟨b, 0, none⟩), .bool true]) (by simp) (by simp [go_sem]) ?_
  refine (store_deferred ⟨b, 0, none⟩ (.int .u32 0) .returning _ k0 kf0).mono ?_
  rintro e u' w'' ⟨rfl, rfl, rfl⟩
  refine leaves_cons (f := 38) (args := #[.pointer (some ⟨b, 1, none⟩)]) (by simp [settle]) (by simp [go_sem]) ?_
  refine (unlock_deferred muLib ⟨b, 1, none⟩ _ _ ?_ (by simp [kf1])).mono ?_
  · refine (World.cell?_setCell_other _ ⟨b, 0, none⟩ ⟨b, 1, none⟩ _ (by simp)).trans ?_
    rw [World.cell?_drew]
    exact k1
  rintro e u' w'' ⟨rfl, rfl, rfl⟩
  simp [Leaves, settle, results, Try.results33]
  exact ⟨w1, hR, rfl⟩
set_option maxHeartbeats 1600000 in
theorem do_first (b : Nat) (w : World) (R : World → Prop)
    (h0 : w.cell? ⟨b, 0, none⟩ = some (.int .u32 0)) (h1 : w.cell? ⟨b, 1, none⟩ = some (.int .i32 0))
    (f0 : w.frozen? ⟨b, 0, none⟩ = false) (f1 : w.frozen? ⟨b, 1, none⟩ = false)
    (hg : Calls Try.prog 28 #[.pointer (some ⟨b, 0, none⟩)] (w.setCell ⟨b, 1, none⟩ (.int .i32 1)) fun e w' => e = .returned (.tuple #[]) ∧ Kept b (w.setCell ⟨b, 1, none⟩ (.int .i32 1)) w' ∧ R w') :
    Calls Try.prog 27 #[.pointer (some ⟨b, 0, none⟩), .func (.func 28) #[.pointer (some ⟨b, 0, none⟩)] #[]] w fun e w' => e = .returned (.tuple #[]) ∧
      ∃ w1, R w1 ∧ w' = (w1.drew.setCell ⟨b, 0, none⟩ (.int .u32 1)).setCell ⟨b, 1, none⟩ (.int .i32 0) := by
  have HS := Lib.hid (slow_any b w R h0 h1 f0 f1 hg)
  clear hg
  go_enter Try.func27, Try.ntmps27
  go_wp2_with fail
  refine (load_done ⟨b, 0, none⟩ 0 _ h0).mono ?_
  rintro e w' ⟨rfl, rfl⟩
  go_wp2_with fail
  refine HS.out.mono ?_
  rintro e w2 ⟨rfl, hR⟩
  have HR := Lib.hid hR
  clear hR
  go_wp2
  go_end0
  exact ⟨rfl, HR.out⟩
end Go.Proofs.Ytkgldphpkglcmaa.Rp
