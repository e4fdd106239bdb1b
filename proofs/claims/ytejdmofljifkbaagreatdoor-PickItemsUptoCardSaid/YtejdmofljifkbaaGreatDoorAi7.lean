/- For every plan, list of items and name, of bulk at most 1048576: pick.Items makes what the document says, and pick.Taken tells which names are taken. Condition: the bulk; the listed package variables are tied to the program's text by the given tie. -/
import Derived.Test.YtejdmofljifkbaaGreatDoorAi6
import Derived.Test.YtejdmofljifkbaaGreatDoorCards
import Derived.Test.YtejdmofljifkbaaGreatDoorTie
import Derived.ShutString
import Derived.Carry
import Derived.Lay
import Derived.Deep.DeepHandedRow
import Derived.Deep.DeepWitnessRowRef
set_option linter.unusedVariables false
set_option linter.unusedSimpArgs false
namespace Go.Proofs.YtejdmofljifkbaaGreatDoor.P
open Go.RowKit Go.Shelf Go.Proofs.YtejdmofljifkbaaGreatDoorW.PrintWords Go.Proofs.YtejdmofljifkbaaGreatDoorW.PrintLast Go.Proofs.YtejdmofljifkbaaGreatDoorW.PrintMore
set_option linter.unusedVariables false
attribute [local go_sem] Oper.semAt_some
theorem ofp_calls (all : Bool) (A : Option Addr) (cap : Nat) (rs : List Ru) (st : Int) (px : ByteArray) (w : World) (hr : Kd.C k45 w A rs.length rs) (hcap : rs.length ≤ cap) (hl : rs.length ≤ 1000000) :
  Calls Tryz.prog 18 #[.agg #[.bool all, .slice A rs.length cap, .int .i64 st, .string px]] w fun e w' => ∃ A9 c9, e = .returned (.agg #[.bool all, .slice A9 rs.length c9, .int .i64 st, .string px]) ∧ (rs.map toR).length ≤ c9 ∧ Kd.C k88 w' A9 (rs.map toR).length (rs.map toR) ∧ Below w.heap.size w w' := by
 refine (oakumlaw26_of.calls 2000000 all A cap rs st px _ _ _ _ w hr hcap (of_f all rs st px hl 2000000 (by omega))).mono fun e w' h => ?_
 obtain ⟨v, rfl, hR, hb⟩ := h
 obtain ⟨A9, c9, rfl, hc, hC⟩ := Kd.R_reads hR
 exact ⟨A9, c9, by rw [List.length_map], hc, hC, hb⟩
theorem itemsM_out (tk : It → Bool) (st : Int) (px : ByteArray) (hpx : px.size ≤ 1000) : ∀ (l acc o : List It), itemsM tk (oneX st px) rightI l acc = some o → (∀ x ∈ l, Fit x ∧ rightI x = true) → (∀ x ∈ acc, Fit x ∧ rightI x = true) → (∀ x ∈ o, Fit x ∧ rightI x = true) ∧ o.length ≤ acc.length + l.length
 | [], acc, o, h, _, ha => by
  simp only [itemsM] at h
  injection h with h
  subst h
  exact ⟨ha, by simp⟩
 | x :: t, acc, o, h, hl, ha => by
  simp only [itemsM] at h
  obtain ⟨f1, r1⟩ := hl x List.mem_cons_self
  have ht : ∀ y ∈ t, Fit y ∧ rightI y = true := fun y hy => hl y (List.mem_cons_of_mem _ hy)
  split at h
  ·split at h
   ·rename_i hp
    have h2 := itemsM_out tk st px hpx t _ o h ht (by
     intro y hy
     rcases List.mem_append.1 hy with h3 | h3
     ·exact ha y h3
     ·rw [List.mem_singleton] at h3
      subst h3
      exact ⟨one_fit f1 r1 st px hpx, hp⟩)
    refine ⟨h2.1, ?_⟩
    have := h2.2
    simp only [List.length_append, List.length_cons, List.length_nil] at this ⊢
    omega
   ·cases h
  ·have h2 := itemsM_out tk st px hpx t acc o h ht ha
   refine ⟨h2.1, ?_⟩
   have := h2.2
   simp only [List.length_cons]
   omega
theorem itemsP_out (all : Bool) (rs : List Ru) (st : Int) (px : ByteArray) (l : List It) (hf : ∀ x ∈ l, Fit x) :
  ∃ o c, itemsP all rs st px l = (o, c) ∧ (c = 0 ∨ c = 12 ∨ c = 15) ∧ (∀ x ∈ o, Fit x ∧ rightI x = true) ∧ o.length ≤ l.length := by
 unfold itemsP itemsV
 split
 ·rename_i h
  simp only [Bool.and_eq_true] at h
  have hpx := (rule_right h.1).1
  have hall := List.all_eq_true.1 h.2
  cases hm : itemsM (fun x => takenL all rs x.f0.f1 && oneOk st x) (oneX st px) rightI l [] with
  | none => exact ⟨[], 12, rfl, .inr (.inl rfl), fun x hx => (by cases hx), Nat.zero_le _⟩
  | some o =>
   have h2 := itemsM_out _ st px hpx l [] o hm (fun x hx => ⟨hf x hx, hall x hx⟩) (fun x hx => (by cases hx))
   exact ⟨o, 0, rfl, .inl rfl, h2.1, by have := h2.2; simpa using this⟩
 ·exact ⟨[], 15, rfl, .inr (.inr rfl), fun x hx => (by cases hx), Nat.zero_le _⟩
set_option maxRecDepth 100000 in
set_option maxHeartbeats 12800000 in
theorem pickItems_true (all : Bool) (A : Option Addr) (cap : Nat) (rs : List Ru) (st : Int) (px name : ByteArray) (A0 : Option Addr) (c0 : Nat) (l0 : List It) (w : World) (hr : Kd.C k45 w A rs.length rs) (hcap : rs.length ≤ cap) (hr0 : Kd.C k29 w A0 l0.length l0) (hc0 : l0.length ≤ c0) (hl : l0.length ≤ 2000000) (hf : ∀ x ∈ l0, Fit x) (hG : Glob w) :
  Calls Tryz.prog 5 #[.agg #[.bool all, .slice A rs.length cap, .int .i64 st, .string px], .slice A0 l0.length c0, .string name] w fun e w' => e = .returned (.bool true) ∧ Below w.heap.size w w' := by
 have hu1 := Tryz.underlying43
 obtain ⟨o, c, hO, hcc, hoF, hoL⟩ := itemsP_out all rs st px l0 hf
 have HR := Lib.hid hr
 have HCAP := Lib.hid hcap
 have HR0 := Lib.hid hr0
 have HC0 := Lib.hid hc0
 have HL := Lib.hid hl
 have HF := Lib.hid hf
 have HG := Lib.hid hG
 have HO := Lib.hid hO
 have HS := Lib.hid (show o.length ≤ 2000000 ∧ ∀ x ∈ o, x.f0.f12.length ≤ 2097152 from ⟨by omega, fun x hx => by have := (hoF x hx).1.hl; omega⟩)
 have HFAR := Lib.hid (fun W (hB : Below w.heap.size w W) => far_calls all A cap rs st px W (Kd.C_below hr hB) A0 c0 l0 (Kd.C_below hr0 hB) hc0 hl (fun x hx => (hf x hx).hl))
 have HB0 := Lib.hid ((Below.refl w.heap.size w).alloc (Nat.le_refl _) (.cells #[.bool all, .slice A rs.length cap, .int .i64 st, .string px] 43))
 have BP0 := Lib.hid (heap_alloc_new w (.cells #[.bool all, .slice A rs.length cap, .int .i64 st, .string px] 43))
 clear hr hcap hr0 hc0 hl hf hG hO hoF hoL
 go_enter Tryz.func5, Tryz.ntmps5
 go_wp2_with fail
 refine (alive_calls _ (Glob.below HG.out HB0.out)).mono ?_
 rintro e w1 ⟨rfl, hb⟩
 have HB1 := Lib.hid (below_step HB0.out hb)
 have BP1 := Lib.hid ((hb.block _ (by simp)).trans BP0.out)
 clear hb HB0 BP0
 go_wp2_with ((with_reducible refine wpList_load_blk rfl 43 (.tmp 3) rfl w.heap.size rfl BP1.out _ Tryz.underlying43 rfl (by kernel_rfl) ?_))
 refine (HFAR.out _ HB1.out).mono ?_
 rintro e w2 ⟨b, rfl, hnear, hb⟩
 have HB2 := Lib.hid (below_step HB1.out hb)
 have BP2 := Lib.hid (blk_below BP1.out hb)
 have HNEAR := Lib.hid hnear
 clear hb HFAR hnear HB1 BP1
 cases b with
 | true =>
  go_wp2
  go_ret
  exact ⟨rfl, HB2.out⟩
 | false =>
  have hnear := HNEAR.out rfl
  cases h60 : decide ((60 : Int) < (name.size : Int)) with
  | true =>
   go_wp2
   go_ret
   exact ⟨rfl, HB2.out⟩
  | false =>
   have HNM := Lib.hid (show name.size ≤ 60 from by have := of_decide_eq_false h60; omega)
   have HN := Lib.hid hnear
   have HRL := Lib.hid (show rs.length ≤ 1000000 from by have := hnear.1; omega)
   have HPX := Lib.hid (show px.size ≤ 1000000 from by have := hnear.2.1; omega)
   have HZ := Lib.hid (show ∀ r ∈ rs, r.f1.size ≤ 1000 from fun r hr => by have := (hnear.2.2 r hr).1; omega)
   have HOF := Lib.hid (fun W (hB : Below w.heap.size w W) => ofp_calls all A cap rs st px W (Kd.C_below HR.out hB) HCAP.out HRL.out)
   have HZR := Lib.hid (show ∀ r ∈ rs.map toR, r.f1.size ≤ 1000 from fun r hr => by
    obtain ⟨r0, h0, rfl⟩ := List.mem_map.1 hr
    exact HZ.out r0 h0)
   have HLR := Lib.hid (show (rs.map toR).length ≤ 1000000 from by rw [List.length_map]; exact HRL.out)
   clear hnear HNEAR
   go_wp2_with ((with_reducible refine wpList_load_blk rfl 43 (.tmp 3) rfl w.heap.size rfl BP2.out _ Tryz.underlying43 rfl (by kernel_rfl) ?_))
   refine (items_fit all A cap rs st px _ (Kd.C_below HR.out HB2.out) HCAP.out HRL.out HZ.out HPX.out A0 c0 l0 (Kd.C_below HR0.out HB2.out) HL.out (Glob.below HG.out HB2.out) HF.out).mono ?_
   rw [HO.out]
   rintro e w3 ⟨v3, rfl, hR3, hb⟩
   obtain ⟨A3, c3, rfl, hc3, hC3⟩ := Kd.R_reads hR3
   have HB3 := Lib.hid (below_step HB2.out hb)
   have BP3 := Lib.hid (blk_below BP2.out hb)
   have HC3 := Lib.hid hC3
   have HE3 := Lib.hid hc3
   clear hb hR3 hC3 hc3 HB2 BP2
   dsimp only at HC3 HE3 ⊢
   go_wp2_with ((with_reducible refine wpList_load_blk rfl 43 (.tmp 3) rfl w.heap.size rfl BP3.out _ Tryz.underlying43 rfl (by kernel_rfl) ?_))
   refine (HOF.out _ HB3.out).mono ?_
   rintro e w4 ⟨A9, c9, rfl, hc9, hC9, hb⟩
   have HB4 := Lib.hid (below_step HB3.out hb)
   have BP4 := Lib.hid (blk_below BP3.out hb)
   have HC4 := Lib.hid (Kd.C_below HC3.out hb)
   have hri := ritems_fit all A9 c9 rs st px w4 hC9 hc9 A0 c0 l0 (Kd.C_below HR0.out HB4.out) HL.out HF.out HN.out
   rw [List.length_map] at hri
   have HRI := Lib.hid hri
   clear hri
   clear hb HB3 BP3 HC3 hc9 hC9
   go_wp2_with fail
   refine HRI.out.mono ?_
   rw [HO.out]
   rintro e w5 ⟨v5, rfl, ⟨A5, c5, rfl, hc5, hC5⟩, hb⟩
   have HB5 := Lib.hid (below_step HB4.out hb)
   have BP5 := Lib.hid (blk_below BP4.out hb)
   have HC5 := Lib.hid (Kd.C_below HC4.out hb)
   have HD5 := Lib.hid hC5
   have HE5 := Lib.hid hc5
   clear hb HB4 BP4 HC4 HRI hC5 hc5
   dsimp only at HD5 HE5 ⊢
   go_wp2_with ((with_reducible refine wpList_load_blk rfl 43 (.tmp 3) rfl w.heap.size rfl BP5.out _ Tryz.underlying43 rfl (by kernel_rfl) ?_))
   refine (ptaken_calls all A cap rs st px name _ (Kd.C_below HR.out HB5.out) HCAP.out HRL.out HZ.out HPX.out (by have := HNM.out; omega)).mono ?_
   rintro e w6 ⟨rfl, hb⟩
   have HB6 := Lib.hid (below_step HB5.out hb)
   have BP6 := Lib.hid (blk_below BP5.out hb)
   have HC6 := Lib.hid (Kd.C_below HC5.out hb)
   have HD6 := Lib.hid (Kd.C_below HD5.out hb)
   clear hb HB5 BP5 HC5 HD5
   go_wp2_with ((with_reducible refine wpList_load_blk rfl 43 (.tmp 3) rfl w.heap.size rfl BP6.out _ Tryz.underlying43 rfl (by kernel_rfl) ?_))
   refine (HOF.out _ HB6.out).mono ?_
   rintro e w7 ⟨A7, c7, rfl, hc7, hC7, hb⟩
   have HB7 := Lib.hid (below_step HB6.out hb)
   have BP7 := Lib.hid (blk_below BP6.out hb)
   have HC7 := Lib.hid (Kd.C_below HC6.out hb)
   have HD7 := Lib.hid (Kd.C_below HD6.out hb)
   have hrr := rright_calls all A7 c7 (rs.map toR) st px w7 hC7 HLR.out HZR.out HPX.out
   rw [List.length_map, right_same] at hrr
   have HRR := Lib.hid hrr
   clear hrr
   clear hb HB6 BP6 HC6 HD6 hC7 hc7
   go_wp2_with fail
   refine HRR.out.mono ?_
   rintro e w8 ⟨rfl, hb⟩
   have HB8 := Lib.hid (below_step HB7.out hb)
   have BP8 := Lib.hid (blk_below BP7.out hb)
   have HC8 := Lib.hid (Kd.C_below HC7.out hb)
   have HD8 := Lib.hid (Kd.C_below HD7.out hb)
   clear hb HB7 BP7 HC7 HD7 HRR
   go_wp2_with ((with_reducible refine wpList_load_blk rfl 43 (.tmp 3) rfl w.heap.size rfl BP8.out _ Tryz.underlying43 rfl (by kernel_rfl) ?_))
   refine (pright_calls all A cap rs st px _ (Kd.C_below HR.out HB8.out) HCAP.out HRL.out HZ.out HPX.out).mono ?_
   rintro e w9 ⟨rfl, hb⟩
   have HB9 := Lib.hid (below_step HB8.out hb)
   have BP9 := Lib.hid (blk_below BP8.out hb)
   have HC9 := Lib.hid (Kd.C_below HC8.out hb)
   have HD9 := Lib.hid (Kd.C_below HD8.out hb)
   clear hb HB8 BP8 HC8 HD8
   have HTS := Lib.hid (fun (h : rightP rs st px = true) => taken_same all rs name (rule_right h).2)
   have HZN := Lib.hid (fun (h : rightP rs st px = true) => show ∀ r ∈ rs.map toR, r.f1.size ≤ 1000 ∧ name.size ≤ 1000 ∧ Gl.rightB r.f1 = true from fun r hr => ⟨HZR.out r hr, by have := HNM.out; omega, by
    obtain ⟨r0, h0, rfl⟩ := List.mem_map.1 hr
    exact (rule_right h).2 r0 h0⟩)
   clear HO
   obtain ⟨T, hT⟩ : ∃ T, takenL all rs name = T := ⟨_, rfl⟩
   rw [hT] at HTS ⊢
   clear hT
   cases hR : rightP rs st px with
   | false =>
    rw [show tkc false = 15 from rfl]
    rcases hcc with rfl | rfl | rfl
    all_goals
     go_wp2_with fail
     refine (all_same A3 c3 A5 c5 o _ HC9.out HD9.out HS.out.1 HS.out.2).mono ?_
     rintro e w10 ⟨rfl, hb⟩
     have HB10 := Lib.hid (below_step HB9.out hb)
     clear hb
     go_wp2
     go_ret
     exact ⟨by simp, HB10.out⟩
   | true =>
    have HTS2 := Lib.hid (HTS.out hR)
    have HZN2 := Lib.hid (HZN.out hR)
    clear HTS HZN
    rw [show tkc true = 0 from rfl]
    rcases hcc with rfl | rfl | rfl
    all_goals
     go_wp2_with fail
     refine (all_same A3 c3 A5 c5 o _ HC9.out HD9.out HS.out.1 HS.out.2).mono ?_
     rintro e w10 ⟨rfl, hb⟩
     have HB10 := Lib.hid (below_step HB9.out hb)
     have BP10 := Lib.hid (blk_below BP9.out hb)
     clear hb
     have d0 : w10.cell? ⟨w.heap.size, 0, none⟩ = some (.bool all) := (blk_cell BP10.out 0).trans rfl
     have d1 : w10.cell? ⟨w.heap.size, 1, none⟩ = some (.slice A rs.length cap) := (blk_cell BP10.out 1).trans rfl
     have d2 : w10.cell? ⟨w.heap.size, 2, none⟩ = some (.int .i64 st) := (blk_cell BP10.out 2).trans rfl
     have d3 : w10.cell? ⟨w.heap.size, 3, none⟩ = some (.string px) := (blk_cell BP10.out 3).trans rfl
     go_wp2_with fail
     refine (HOF.out _ HB10.out).mono ?_
     rintro e w11 ⟨A11, c11, rfl, hc11, hC11, hb⟩
     have HB11 := Lib.hid (below_step HB10.out hb)
     have hrt := rtaken_calls all A11 c11 (rs.map toR) st px name w11 hC11 HLR.out HZN2.out
     rw [List.length_map, HTS2.out] at hrt
     have HRT := Lib.hid hrt
     clear hb hC11 hc11 hrt
     go_wp2_with fail
     refine HRT.out.mono ?_
     rintro e w12 ⟨rfl, hb⟩
     have HB12 := Lib.hid (below_step HB11.out hb)
     clear hb
     go_wp2
     go_ret
     exact ⟨by simp, HB12.out⟩
end Go.Proofs.YtejdmofljifkbaaGreatDoor.P
/- For every plan, list of items and name, of bulk at most 1048576: pick.Items makes what the document says, and pick.Taken tells which names are taken. Condition: the bulk; the listed package variables are tied to the program's text by the given tie. -/
namespace Go.Proofs.YtejdmofljifkbaaGreatDoor.pickItems
open Go.ChangeShapes Go.WideShapes Go.ChangeAt Go.RowKit
open Go.ChangeMaps (open_string shut_string)
set_option linter.unusedVariables false
theorem own : ownKnob Tryz.prog.godebug = none := by kernel_rfl
theorem laidOut : laidOutB Tryz.prog = true := by kernel_rfl
set_option maxRecDepth 100000 in
theorem contract (H : Type) (enc : TypeId × Value → H) (W : World) (base : Nat) (args : Array Value) (ds gs : List (DataW H)) (before : List MemPlace)
  (hval : ∀ (j : Nat) t v, Tryz.f5.params[j]? = some t → args[j]? = some v → Value.okWide Tryz.prog W .any base t v)
  (hW : DataW.Whole enc Tryz.prog Tryz.f5.params.toList Rows.pickItemsSpec.vars false W args.toList ds gs before) (hk : Rows.uptoSmall H (ds ++ gs) = true)
  (hL : laidMetH Tryz.prog Rows.pickItemsUptoRow.laid W) (hS : W.ShapedOpen Tryz.prog) :
  Calls Tryz.prog 5 args W fun e W' => ∃ v, e = .returned v ∧ Rows.pickItemsSpec.post enc Tryz.prog Tryz.f5 false true false false W args v W' := by
 have hW' := hW
 obtain ⟨p, q, hA0, hV, rfl, hfz, hnd⟩ := hW
 have hA : DataW.TrodAll enc Tryz.prog W 0 (fun _ => true) true Tryz.f5.params.toList args.toList ds p := hA0
 rw [Tryz.params5] at hA hval
 obtain ⟨v0, vs0, d0, ds0, p0, q0, hargs, rfl, rfl, h0, r0⟩ := trodAll_cons hA
 obtain ⟨v1, vs1, d1, ds1, p1, q1, rfl, rfl, rfl, h1, r1⟩ := trodAll_cons r0
 obtain ⟨v2, vs2, d2, ds2, p2, q2, rfl, rfl, rfl, h2, r2⟩ := trodAll_cons r1
 obtain ⟨rfl, rfl, rfl⟩ := trodAll_nil r2
 obtain rfl : args = #[v0, v1, v2] := by cases args; simp_all
 obtain ⟨rfl, rfl⟩ := trodVars_none hV
 obtain ⟨cs0, rfl, _⟩ := okWide_struct Tryz.underlying43 (hval 0 43 v0 rfl rfl)
 obtain ⟨B1, len1, cap1, rfl⟩ := okWide_slice Tryz.underlying32 (hval 1 32 v1 rfl rfl)
 obtain ⟨a2, rfl, rfl, rfl, w2⟩ := open_string Tryz.underlying9 (hval 2 9 v2 rfl rfl) h2
 have hk0 := h0
 obtain ⟨fuel0, hf0⟩ := h0
 have hk1 := h1
 obtain ⟨fuel1, hf1⟩ := h1
 clear hA0
 simp only [List.append_nil] at hW'
 have hb0 : Rows.uptoBulk d0 ≤ 1048576 := by
  have h := of_decide_eq_true hk
  simp only [List.append_nil, Rows.uptoBulkAll] at h
  omega
 have hlt0 : ∀ x ∈ p0, x.block < W.heap.size := fun x hx => by simpa using hW'.lt x (by simp [hx])
 have hback0 : ∀ (W' : World), Below W.heap.size W W' → DataW.Trod enc Tryz.prog W' 0 (fun b => decide (b < W.heap.size)) true 43 (.agg cs0) d0 p0 :=
  fun W' hn => Below.trod laidOut (by kernel_rfl) (of_decide_eq_true (by kernel_rfl)) hk0 hn hlt0
 have hb1 : Rows.uptoBulk d1 ≤ 1048576 := by
  have h := of_decide_eq_true hk
  simp only [List.append_nil, Rows.uptoBulkAll] at h
  omega
 have hlt1 : ∀ x ∈ p1, x.block < W.heap.size := fun x hx => by simpa using hW'.lt x (by simp [hx])
 have hback1 : ∀ (W' : World), Below W.heap.size W W' → DataW.Trod enc Tryz.prog W' 0 (fun b => decide (b < W.heap.size)) true 32 (.slice B1 len1 cap1) d1 p1 :=
  fun W' hn => Below.trod laidOut (by kernel_rfl) (of_decide_eq_true (by kernel_rfl)) hk1 hn hlt1
 obtain ⟨all0, A0, m0, rs0, st0, px0, hcs0, hle0, hC0⟩ := P.open_plan hf0 hb0
 have hc0 : cs0 = #[.bool all0, .slice A0 rs0.length m0, .int .i64 st0, .string px0] := by
  apply Array.toList_inj.1
  simpa [Value.cells] using hcs0
 obtain ⟨A1, m1, l1, hv1, hle1, hC1, hl1, hF1⟩ := P.open_items (v := .slice B1 len1 cap1) hf1 hb1
 have hG : Glob W := glob_of (show laidMetH Tryz.prog Rows.listLinesUptoRow.laid W from hL) hS
 have hw : Calls Tryz.prog 5 #[.agg cs0, .slice B1 len1 cap1, .string a2] W fun e W' => e = .returned (.bool true) ∧ Below W.heap.size W W' := by
  rw [hc0, hv1]
  exact P.pickItems_true all0 A0 m0 rs0 st0 px0 a2 A1 m1 l1 W hC0 hle0 hC1 hle1 (by omega) hF1 hG
 refine hw.mono fun e W' ⟨he, hg⟩ => ?_
 subst he
 exact ⟨_, rfl, _, _, _, [], _, [], hW', (trodAll_cons_mk (shut_bool Tryz.underlying4 _) trodAll_mk0), (trodAll_cons_mk (hback0 W' hg) (trodAll_cons_mk (hback1 W' hg) (trodAll_cons_mk (shut_string Tryz.underlying9 w2) trodAll_mk0))), rfl, hg.frame _, fun h => by cases h⟩
noncomputable def world0 (os : Os) : World := World.laidAll Tryz.prog os Rows.pickItemsUptoRow.laid
theorem laid_met (os : Os) : laidMetH Tryz.prog Rows.pickItemsUptoRow.laid ((world0 os).forCall (fun _ _ => 0) ⟨#[], #[.agg #[.bool false, .slice none 0 0, .int .i64 0, .string ⟨#[]⟩], .slice none 0 0, .string ⟨#[]⟩], []⟩).memory := by
 rw [MakeChecks.laidMetH_plain _ _ _ (by kernel_rfl)]
 exact laidMet_laidAll _ (by kernel_rfl) (by kernel_rfl)
theorem reads (os : Os) {H : Type} (enc : TypeId × Value → H) : ∃ places, DataW.whole enc Tryz.prog ((world0 os).forCall (fun _ _ => 0) ⟨#[], #[.agg #[.bool false, .slice none 0 0, .int .i64 0, .string ⟨#[]⟩], .slice none 0 0, .string ⟨#[]⟩], []⟩).memory Tryz.f5.params.toList Rows.pickItemsSpec.vars false (#[.agg #[.bool false, .slice none 0 0, .int .i64 0, .string ⟨#[]⟩], .slice none 0 0, .string ⟨#[]⟩] : Array Value).toList 8 = some ([.agg [.lit (.bool false), .nil, .lit (.int .i64 0), .lit (.string [])], .nil, .lit (.string [])], [], places) :=
 ⟨[], by kernel_rfl⟩
set_option maxRecDepth 100000 in
theorem lifted (os : Os) (started : os.Started) (H : Type) (enc : TypeId × Value → H) (F : Stop.Interp) :
  ReturnsInHanded {} Tryz.checked os 5 .any ((Rows.OpenSpec.upto Rows.pickItemsSpec).preRow enc Tryz.prog Tryz.f5 Rows.pickItemsUptoRow.domain false Rows.pickItemsUptoRow.laid) (((Rows.OpenSpec.upto Rows.pickItemsSpec).at F).post enc Tryz.prog Tryz.f5 false true false false) := by
 obtain ⟨places, hx⟩ := reads os enc
 refine returnsInHanded_of_row (C := Tryz.checked) (s := Rows.OpenSpec.upto Rows.pickItemsSpec) own started (by kernel_rfl) Tryz.func5
  (witness_row_atRef (enc := enc) (C := Tryz.checked) false (world0 os) #[.agg #[.bool false, .slice none 0 0, .int .i64 0, .string ⟨#[]⟩], .slice none 0 0, .string ⟨#[]⟩] (World.laidAll_os _ _ _) (by kernel_rfl) (by kernel_rfl) (by kernel_rfl)
   (OpenSpec.preRow_of_cond 8 hx (by kernel_rfl) (fun k hk => by cases hk; kernel_rfl) (by kernel_rfl) (laid_met os))) ?_
 intro W base args ds gs before hval hW _ hcond _ hL hS _
 exact contract H enc W base args ds gs before hval hW (hcond _ rfl) hL hS
theorem said : Rows.PickItemsUptoSaid :=
 OpenClaim.holds_of_cond 5 Tryz.f5 rfl rfl rfl rfl rfl rfl rfl ⟨rfl, rfl, rfl, rfl, rfl⟩ rfl rfl rfl rfl rfl (by kernel_rfl) Tryz.func5 (by kernel_rfl)
  (of_decide_eq_true (by kernel_rfl)) (by unfold Func.isWrapper; first | (rw [if_pos (by decide +kernel)]; kernel_rfl) | (rw [if_neg (by decide +kernel)]; exact ⟨rfl, rfl⟩))
  (fun os started H enc _ F => by rw [OpenClaim.pre_eq_preRow]; exact lifted os started H enc F)
theorem plain (f : FuncId) (fn : Func) (hf : Tryz.pinned.checked.prog.funcNamed "oakum/oakumlaw26.PickItems" = some f) (hfn : Tryz.pinned.checked.prog.funcs[f]? = some fn) :
  true = Tryz.pinned.checked.prog.looks [] ∧ ∀ (j : Nat) t, fn.params[j]? = some t → Tryz.pinned.checked.prog.wantsStandIn t = false := by
 obtain rfl : f = 5 := Option.some.inj ((show Tryz.prog.funcNamed "oakum/oakumlaw26.PickItems" = some 5 by kernel_rfl).symm.trans hf) |>.symm
 obtain rfl : fn = Tryz.f5 := (Option.some.inj (Tryz.func5.symm.trans hfn)).symm
 refine ⟨by kernel_rfl, fun j t ht => ?_⟩
 rw [Tryz.params5] at ht
 have hm := Array.mem_of_getElem? ht
 simp only [List.mem_toArray, List.mem_cons, List.not_mem_nil, or_false] at hm
 rcases hm with rfl | rfl | rfl
 ·exact (show Tryz.prog.wantsStandIn 43 = false by kernel_rfl)
 ·exact (show Tryz.prog.wantsStandIn 32 = false by kernel_rfl)
 ·exact (show Tryz.prog.wantsStandIn 9 = false by kernel_rfl)
theorem proved : Rows.PickItemsUptoCardSaid :=
 Claim7.holds_tied_plain_at .later [] _ _ _ _ said (fun _ h => by cases h) (by kernel_rfl) (fun _ h => by cases h) pickItemsUpto_row_tie rfl ⟨rfl, rfl⟩ (by kernel_rfl) rfl plain (by kernel_rfl)
#print axioms proved
end Go.Proofs.YtejdmofljifkbaaGreatDoor.pickItems
