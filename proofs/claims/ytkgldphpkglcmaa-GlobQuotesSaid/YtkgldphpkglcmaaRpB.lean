/- strings.NewReplacer at eight strings. -/
import Derived.Test.YtkgldphpkglcmaaRpA
namespace Go.Proofs.Ytkgldphpkglcmaa.Rp
open Go.RowKit Go.MuLone Go.Proofs.YtkgldphpkglcmaaW.PrintWords Go.Proofs.YtkgldphpkglcmaaW.PrintLast Go.Proofs.YtkgldphpkglcmaaW.PrintMore
set_option linter.unusedVariables false
/-- what is replaced, and by what. -/
def ons : List ByteArray := [⟨#[42]⟩, ⟨#[92, 42]⟩, ⟨#[63]⟩, ⟨#[92, 63]⟩, ⟨#[91]⟩, ⟨#[92, 91]⟩, ⟨#[92]⟩, ⟨#[92, 92]⟩]
def onv : List Value := ons.map .string
theorem info9 : (Try.prog.info? 9).map (fun i => (i.zero, i.size, i.bytes)) = some (some (.string ⟨#[]⟩), 1, 16) := by kernel_rfl
/-- a Replacer's block: fresh, its strings in a row of its own. -/
structure Fresh (w0 w : World) (b : Nat) (v : Value) : Prop where
  blk : w.heap[b]? = some (.cells #[.int .u32 0, .int .i32 0, .int .u32 0, .nilIface, v] 76 (0, 0))
  own : w.ownsRow w0.heap.size 9 1 v 8 onv
  hb : w0.heap.size ≤ b
  bel : Below w0.heap.size w0 w
theorem new_replacer (g : Nat) (w : World) (hr : ∀ j u, onv[j]? = some u → w.cell? ((⟨g, 0, none⟩ : Addr).add j) = some u) :
    Calls Try.prog 19 #[.slice (some ⟨g, 0, none⟩) 8 8] w fun e w' => ∃ b v, e = .returned (.pointer (some ⟨b, 0, none⟩)) ∧ Fresh w w' b v := by
  obtain ⟨i9, hi9, hzz⟩ := Option.map_eq_some_iff.1 info9
  simp only [Prod.mk.injEq] at hzz
  obtain ⟨hz9, hs9, hb9⟩ := hzz
  have HR := Lib.hid hr
  clear hr
  have h1 : ∀ u ∈ onv, u.oneCell' = true := by decide
  go_enter Try.func19, Try.ntmps19
  go_wp2_with (at_builtin; refine wpList_append_lies _ rfl (.const (.slice none 0 0)) (.tmp 8) 60 rfl w.heap.size 9 i9 _ 1 16 Try.underlying60 hi9 hz9 hs9 hb9 rfl (by omega) (.slice none 0 0) 0 [] rfl (own_nil _ _ _ _) ⟨g, 0, none⟩ 8 8 onv rfl rfl HR.out h1 (by omega) (by unfold maxLen; omega) (by omega) (Nat.le_refl _) _ rfl ?_; intro g2 cap w2 hown2 hgr2 _ hlt2)
  go_ret
  refine ⟨w2.heap.size, .slice (some ⟨g2, 0, none⟩) 8 cap, rfl, heap_alloc_new w2 _, hown2.alloc _, hgr2.size, ?_⟩
  exact ((Below.refl w.heap.size w).grown hgr2 (Nat.le_refl _) (fun k hk => by cases hk)).alloc hgr2.size _
end Go.Proofs.Ytkgldphpkglcmaa.Rp
