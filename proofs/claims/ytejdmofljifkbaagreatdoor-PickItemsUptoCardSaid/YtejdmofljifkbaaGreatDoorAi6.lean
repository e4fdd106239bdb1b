/- A part of the proof: its steps, joined out of smaller texts. -/
import Derived.Test.YtejdmofljifkbaaGreatDoorAi5
import Derived.Deep.SlicePairs
import Derived.ChangeSlices
import Derived.OpenShut
import Derived.ProofKit
import Derived.Stop.LaidErr
import Derived.Shelf.Vars
import Derived.LaidLaws
set_option linter.unusedVariables false
set_option linter.unusedSimpArgs false
namespace Go.Proofs.YtejdmofljifkbaaGreatDoor.P
open Go.RowKit Go.Shelf Go.Proofs.YtejdmofljifkbaaGreatDoorW.PrintWords Go.Proofs.YtejdmofljifkbaaGreatDoorW.PrintLast Go.Proofs.YtejdmofljifkbaaGreatDoorW.PrintMore
set_option linter.unusedVariables false
attribute [local go_sem] Oper.semAt_some
def heldK (w0 : World) : Kd It where
 sz := 15
 E := []
 K := fun _ x cs => k29.K w0 x cs
 M := fun _ _ _ x cs => k29.K w0 x cs
 K_len := fun h => k29.K_len h
 K_one := fun h => k29.K_one h
 K_below := fun _ h => h
 K_of_M := fun h => h
 M_mono := fun _ h => h
 M_bound := fun h => h
 M_move := fun _ h => h
 M_lower := fun _ h => h
theorem held_C {w0 w : World} {A : Option Addr} {n : Nat} {xs : List It} (h : Kd.C (heldK w0) w A n xs) (hb : Below w0.heap.size w0 w) : Kd.C k29 w A n xs :=
 ReadsRow.imp_ h (Below.refl _ w) (fun _ _ hp => k29.K_below hb hp)
def itQ (K : Nat) (x : It) : Option Bool := oakumref09_Right.f K x.f0.f0 x.f0.f1 x.f0.f2 x.f0.f3 x.f0.f4 x.f0.f5 x.f0.f6 x.f0.f7.f0 x.f0.f7.f1 x.f0.f8 x.f0.f9 x.f0.f10 x.f0.f11 x.f0.f12 x.f1
theorem qright_calls (K : Nat) (x : It) (cs : List Value) (b : Bool) (w : World) (hx : k29.K w x cs) (h : itQ K x = some b) :
  Calls Tryz.prog 13 #[.agg cs.toArray] w fun e w' => e = .returned (.bool b) ∧ Below w.heap.size w w' := by
 obtain ⟨A13, c13, A14, c14, rfl, e13, g13, e14, g14⟩ := k29_open hx
 exact oakumref09_Right.calls K _ _ _ _ _ _ _ _ _ _ _ _ _ A13 c13 _ A14 c14 _ b w g13 e13 g14 e14 h
def RItemsPost (w w' : World) (e : Ending) (r : List It × Int) : Prop := ∃ v, e = .returned (.tuple #[v, .int .i64 r.2]) ∧ (∃ A c, v = .slice A r.1.length c ∧ r.1.length ≤ c ∧ Kd.C k29 w' A r.1.length r.1) ∧ Below w.heap.size w w'
theorem rnamed_calls (all : Bool) (A : Option Addr) (cap : Nat) (l : List Rr) (st : Int) (px s : ByteArray) (hs : s.size ≤ 1000000) (hpx : px.size ≤ 1000000) (w : World) (hr : Kd.C k88 w A l.length l) (hc : l.length ≤ cap) :
  Calls Tryz.prog 45 #[.agg #[.bool all, .slice A l.length cap, .int .i64 st, .string px], .string s] w fun e w' => e = .returned (.tuple #[.string (namL st px s), .bool (namOk st s)]) ∧ Below w.heap.size w w' :=
 oakumref26_named.calls 3000000 all A cap l st px s _ _ w hr hc (named_ref all l st px s hs hpx 3000000 (by omega))
set_option maxRecDepth 100000 in
set_option maxHeartbeats 12800000 in
theorem ritems_calls (K : Nat) (p : It → Bool) (all : Bool) (A : Option Addr) (cap : Nat) (l : List Rr) (st : Int) (px : ByteArray) (w : World) (hr : Kd.C k88 w A l.length l) (hcap : l.length ≤ cap) (hlen : l.length ≤ 1000000) (hz : ∀ r ∈ l, r.f1.size ≤ 1000) (hpx : px.size ≤ 1000000)
  (A0 : Option Addr) (c0 : Nat) (l0 : List It) (hr0 : Kd.C k29 w A0 l0.length l0) (hl : l0.length ≤ 2000000) (hp : ∀ x ∈ l0, itQ K x = some (p x))
  (hs : ∀ x ∈ l0, p x = true → x.f0.f1.size ≤ 1000000 ∧ x.f0.f2.size ≤ 1000000 ∧ (l ≠ [] → x.f0.f1.size ≤ 1000))
  (hq : rightR l st px = true → ∀ x ∈ l0, p x = true → (fun x => l.foldl (takeR x.f0.f1) all && oneOk st x) x = true → itQ K (oneX st px x) = some (p (oneX st px x))) :
  Calls Tryz.prog 17 #[.agg #[.bool all, .slice A l.length cap, .int .i64 st, .string px], .slice A0 l0.length c0] w fun e w' => RItemsPost w w' e (itemsV (rightR l st px) (fun x => l.foldl (takeR x.f0.f1) all && oneOk st x) (oneX st px) p l0) := by
 have hu1 := Tryz.underlying52
 have hu29 := Tryz.underlying29
 have hu26 := Tryz.underlying26
 have HR := Lib.hid hr
 have HR0 := Lib.hid hr0
 have HZ := Lib.hid hz
 have HP := Lib.hid hp
 have HS := Lib.hid hs
 have HQ := Lib.hid hq
 have HLEN := Lib.hid hlen
 have HL := Lib.hid hl
 have HCAP := Lib.hid hcap
 have HPX := Lib.hid hpx
 clear hr hr0 hz hp hs hq hlen hl hcap hpx
 have HB0 := Lib.hid ((Below.refl w.heap.size w).alloc (Nat.le_refl _) (.cells #[.bool all, .slice A l.length cap, .int .i64 st, .string px] 52))
 have BP0 := Lib.hid (heap_alloc_new w (.cells #[.bool all, .slice A l.length cap, .int .i64 st, .string px] 52))
 obtain ⟨RV, hRV⟩ : ∃ r, itemsV (rightR l st px) (fun x => l.foldl (takeR x.f0.f1) all && oneOk st x) (oneX st px) p l0 = r := ⟨_, rfl⟩
 rw [hRV]
 have HRV := Lib.hid hRV
 clear hRV
 have HPR := Lib.hid (rright_calls all A cap l st px (w.alloc (.cells #[.bool all, .slice A l.length cap, .int .i64 st, .string px] 52)) (Kd.C_below HR.out HB0.out) HLEN.out HZ.out HPX.out)
 have hnone : Hid (∀ W, Kd.C k29 W none ([] : List It).length []) := Lib.hid (fun W => ⟨rfl, by decide, fun h => absurd h (by decide)⟩)
 cases hrt : rightR l st px with
 | false =>
  rw [hrt] at HPR HRV
  have hv : RV = ([], 15) := HRV.out.symm
  subst hv
  clear hrt HRV
  go_enter Tryz.func17, Tryz.ntmps17
  go_wp2_with ((with_reducible refine wpList_load_blk rfl 52 (.tmp 2) rfl w.heap.size rfl BP0.out _ Tryz.underlying52 rfl (by kernel_rfl) ?_))
  refine HPR.out.mono ?_
  rintro e w1 ⟨rfl, hb⟩
  have HB1 := Lib.hid (below_step HB0.out hb)
  clear hb
  go_wp2
  go_ret2
  exact ⟨_, rfl, ⟨none, 0, rfl, Nat.le_refl _, hnone.out _⟩, HB1.out⟩
 | true =>
  have HOK := Lib.hid (show ∀ r ∈ l, Gl.rightB r.f1 = true from by
   unfold rightR at hrt
   simp only [Bool.and_eq_true] at hrt
   exact fun r hr => (List.all_eq_true.1 hrt.1) r hr)
  rw [hrt] at HPR HRV HQ
  have HQ2 := Lib.hid (HQ.out rfl)
  clear hrt HQ
  obtain ⟨bA, hA⟩ : ∃ b, l0.all p = b := ⟨_, rfl⟩
  have HAL := Lib.hid hA
  obtain ⟨R, hR⟩ : ∃ r, itemsM (fun x => l.foldl (takeR x.f0.f1) all && oneOk st x) (oneX st px) p l0 [] = r := ⟨_, rfl⟩
  have HRB := Lib.hid (show RV = if bA = true then itemsR R else ([], 15) from by
   rw [← HRV.out, ← hA, ← hR]
   unfold itemsV
   rw [Bool.true_and])
  have HM := Lib.hid hR
  clear hA hR HRV
  go_enter Tryz.func17, Tryz.ntmps17
  go_wp2_with ((with_reducible refine wpList_load_blk rfl 52 (.tmp 2) rfl w.heap.size rfl BP0.out _ Tryz.underlying52 rfl (by kernel_rfl) ?_))
  refine HPR.out.mono ?_
  rintro e w1 ⟨rfl, hb⟩
  have HB1 := Lib.hid (below_step HB0.out hb)
  have BP1 := Lib.hid ((hb.block _ (by simp)).trans BP0.out)
  clear hb HB0 BP0 HPR
  go_wp2_with fail
  go_loopg [6] (l0.length) (fun gk v6 wr => ∃ (x : Int), v6 = .int .i64 x ∧ Aside0 (∃ n : Nat, x = (n : Int) ∧ n + gk = l0.length ∧ (l0.drop n).all p = bA) ∧ Aside0 (wr.heap[w.heap.size]? = some (.cells #[.bool all, .slice A l.length cap, .int .i64 st, .string px] 52 (0, 0))) ∧ Aside0 (Below w.heap.size w wr))
  case atStart => exact ⟨0, rfl, ⟨0, rfl, by omega, HAL.out⟩, ⟨BP1.out⟩, ⟨HB1.out⟩⟩
  case round =>
   clear HB1 BP1
   obtain ⟨x, rfl, HN, BP, HB⟩ := hrel
   obtain ⟨n, hx, hn, hk⟩ := HN.out
   cases gk with
   | succ k =>
    have hi : n < l0.length := by omega
    have h0 : (0 : Int) ≤ x := by omega
    have h1 : x < (l0.length : Int) := by omega
    have hlt : decide (x < (l0.length : Int)) = true := decide_eq_true h1
    obtain ⟨ad, cs, rfl, hsz, hK, hc⟩ := elem_C (Kd.C_below HR0.out HB.out) x h0 h1
    have hget : l0.drop n = rd_T29 l0 x :: l0.drop (n + 1) := by
     rw [List.drop_eq_getElem_cons hi]
     congr 1
     unfold rd_T29
     rw [hx, Int.toNat_natCast, List.getD_eq_getElem?_getD, List.getElem?_eq_getElem hi]
     rfl
    have hpx := HP.out _ (show rd_T29 l0 x ∈ l0 from List.mem_of_mem_drop (by rw [hget]; exact List.mem_cons_self))
    rw [hget] at hk
    have hw : wrap64 (x + 1) = ((n + 1 : Nat) : Int) := by
     have := HL.out
     rw [hx, show (n : Int) + 1 = ((n + 1 : Nat) : Int) by omega, w64n _ (by omega)]
    have HW := Lib.hid hw
    have HNN := Lib.hid hn
    have HSZ := Lib.hid hsz
    have HCC := Lib.hid hc
    have HRT := Lib.hid (qright_calls K _ cs _ wr hK hpx)
    generalize rd_T29 l0 x = X at *
    have HKK := Lib.hid (show (p X && (l0.drop (n + 1)).all p) = bA from hk)
    clear hget hw hx hn hk hi HN hsz hc hK hpx
    replace h0 := eq_true h0
    replace h1 := eq_true h1
    go_wp2_with ((with_reducible refine wpList_load_elem rfl 29 (.tmp 25) rfl (ad.add (x.toNat * 15)) rfl cs HCC.out _ Tryz.underlying29 rfl HSZ.out ?_))
    refine HRT.out.mono ?_
    rintro e w2 ⟨rfl, hb⟩
    have HB2 := Lib.hid (below_step HB.out hb)
    have BP2 := Lib.hid (blk_below BP.out hb)
    clear hb HRT HCC HSZ
    cases hpX : p X with
    | false =>
     have hres : RV = ([], 15) := by
      rw [HRB.out, ← HKK.out, hpX]
      rfl
     subst hres
     go_wp2
     go_ret2
     exact ⟨_, rfl, ⟨none, 0, rfl, Nat.le_refl _, hnone.out _⟩, HB2.out⟩
    | true =>
     have HK2 := Lib.hid (show (l0.drop (n + 1)).all p = bA from by rw [← HKK.out, hpX]; rfl)
     clear hpX HKK
     go_wp2
     go_roundg k
     case measure => omega
     case rel => exact ⟨_, rfl, ⟨n + 1, HW.out, by have := HNN.out; omega, HK2.out⟩, ⟨BP2.out⟩, ⟨HB2.out⟩⟩
   | zero =>
    have hlt : decide (x < (l0.length : Int)) = false := decide_eq_false (by omega)
    have hres : bA = true := by
     rw [← hk, List.drop_eq_nil_of_le (by omega)]
     rfl
    subst hres
    have hv : RV = itemsR R := by rw [HRB.out]; rfl
    subst hv
    have HALL := Lib.hid (fun x hx => (List.all_eq_true.1 HAL.out) x hx)
    clear hx hn hk HN HRB HAL
    go_wp2_with fail
    go_loopg [7, 8] (l0.length) (fun gk v7 v8 wr => ∃ (x : Int) (acc : List It), v8 = .int .i64 x ∧ Aside0 (∃ n : Nat, x = (n : Int) ∧ n + gk = l0.length ∧ itemsM (fun x => l.foldl (takeR x.f0.f1) all && oneOk st x) (oneX st px) p (l0.drop n) acc = R ∧ acc.length ≤ n) ∧ Aside0 (Kd.R (heldK w) 29 wr w.heap.size (fun _ => True) v7 acc) ∧ Aside0 (wr.heap[w.heap.size]? = some (.cells #[.bool all, .slice A l.length cap, .int .i64 st, .string px] 52 (0, 0))) ∧ Aside0 (Below w.heap.size w wr))
    case atStart => exact ⟨0, [], rfl, ⟨0, rfl, by omega, HM.out, Nat.le_refl _⟩, ⟨Kd.R_nil _ _ _ _ _⟩, ⟨BP.out⟩, ⟨HB.out⟩⟩
    case round =>
     clear HM HB BP hlt
     obtain ⟨x, acc, rfl, HN, HV, BP, HB⟩ := hrel
     obtain ⟨n, hx, hn, hk, ha⟩ := HN.out
     cases gk with
     | zero =>
      have hlt : decide (x < (l0.length : Int)) = false := decide_eq_false (by omega)
      have hres : R = some acc := by
       rw [← hk, List.drop_eq_nil_of_le (by omega)]
       rfl
      subst hres
      clear hx hn hk HN ha
      go_wp2
      go_ret2
      obtain ⟨A9, c9, rfl, hle, hC⟩ := Kd.R_reads HV.out
      exact ⟨_, rfl, ⟨A9, c9, rfl, hle, held_C hC HB.out⟩, HB.out⟩
     | succ k =>
      have hi : n < l0.length := by omega
      have h0 : (0 : Int) ≤ x := by omega
      have h1 : x < (l0.length : Int) := by omega
      have hlt : decide (x < (l0.length : Int)) = true := decide_eq_true h1
      obtain ⟨ad, cs, rfl, hsz, hK, hc⟩ := elem_C HR0.out x h0 h1
      have hget : l0.drop n = rd_T29 l0 x :: l0.drop (n + 1) := by
       rw [List.drop_eq_getElem_cons hi]
       congr 1
       unfold rd_T29
       rw [hx, Int.toNat_natCast, List.getD_eq_getElem?_getD, List.getElem?_eq_getElem hi]
       rfl
      have hmem : rd_T29 l0 x ∈ l0 := List.mem_of_mem_drop (by rw [hget]; exact List.mem_cons_self)
      have hpx := HALL.out _ hmem
      obtain ⟨z1, z2, z3⟩ := HS.out _ hmem hpx
      have HQX := Lib.hid (HQ2.out _ hmem hpx)
      rw [hget] at hk
      have hw : wrap64 (x + 1) = ((n + 1 : Nat) : Int) := by
       have := HL.out
       rw [hx, show (n : Int) + 1 = ((n + 1 : Nat) : Int) by omega, w64n _ (by omega)]
      have HW := Lib.hid hw
      have HNN := Lib.hid hn
      have HKK := Lib.hid hk
      have HSZ := Lib.hid hsz
      have HCC := Lib.hid (show ∀ j v, cs[j]? = some v → wr.cell? ((ad.add (x.toNat * 15)).add j) = some v from fun j v hj => (HB.out.cell (World.block_lt_of_cell? w _ (hc j v hj))).trans (hc j v hj))
      have HA := Lib.hid ha
      have HWS := Lib.hid HB.out.size
      have HNA1 := Lib.hid (fun W (hB : Below w.heap.size w W) => rnamed_calls all A cap l st px (rd_T29 l0 x).f0.f1 z1 HPX.out W (Kd.C_below HR.out hB) HCAP.out)
      have HNA2 := Lib.hid (fun W (hB : Below w.heap.size w W) => rnamed_calls all A cap l st px (rd_T29 l0 x).f0.f2 z2 HPX.out W (Kd.C_below HR.out hB) HCAP.out)
      have HTK := Lib.hid (fun W (hB : Below w.heap.size w W) => rtaken_calls all A cap l st px (rd_T29 l0 x).f0.f1 W (Kd.C_below HR.out hB) HLEN.out (fun r hr => ⟨HZ.out r hr, z3 (List.ne_nil_of_mem hr), HOK.out r hr⟩))
      generalize rd_T29 l0 x = X at *
      obtain ⟨A13, c13, A14, c14, rfl, e13, g13, e14, g14⟩ := k29_open hK
      have G := Lib.hid (And.intro e13 (And.intro g13 (And.intro e14 g14)))
      clear hget hw hx hn hk hi HN hsz hc hK hpx hmem z1 z2 z3 ha e13 g13 e14 g14
      have HKR := Lib.hid (show (if (l.foldl (takeR X.f0.f1) all && oneOk st X) = true then (if p (oneX st px X) = true then itemsM (fun x => l.foldl (takeR x.f0.f1) all && oneOk st x) (oneX st px) p (l0.drop (n + 1)) (acc ++ [oneX st px X]) else none) else itemsM (fun x => l.foldl (takeR x.f0.f1) all && oneOk st x) (oneX st px) p (l0.drop (n + 1)) acc) = R from HKK.out)
      obtain ⟨Y, hY⟩ : ∃ y, oneX st px X = y := ⟨_, rfl⟩
      rw [hY] at HKR HQX
      have HYY := Lib.hid hY
      obtain ⟨OO, hOO⟩ : ∃ y, oneOk st X = y := ⟨_, rfl⟩
      rw [hOO] at HKR
      have HOO := Lib.hid hOO
      unfold oneX at hY
      unfold oneOk at hOO
      obtain ⟨N1, hN1⟩ : ∃ N, namL st px X.f0.f1 = N := ⟨_, rfl⟩
      obtain ⟨N2, hN2⟩ : ∃ N, namL st px X.f0.f2 = N := ⟨_, rfl⟩
      obtain ⟨O1, hO1⟩ : ∃ N, namOk st X.f0.f1 = N := ⟨_, rfl⟩
      obtain ⟨O2, hO2⟩ : ∃ N, namOk st X.f0.f2 = N := ⟨_, rfl⟩
      obtain ⟨T, hT⟩ : ∃ b, l.foldl (takeR X.f0.f1) all = b := ⟨_, rfl⟩
      rw [hN1, hO1] at HNA1
      rw [hN2, hO2] at HNA2
      rw [hT] at HTK HKR
      rw [hN1, hN2] at hY
      rw [hO1, hO2] at hOO
      have HQY := Lib.hid (show (T && OO) = true → itQ K Y = some (p Y) from by
       have := HQX.out
       simp only [hT, HOO.out] at this
       exact this)
      have HY := Lib.hid hY
      have HO := Lib.hid hOO
      clear hY hOO hN1 hN2 hO1 hO2 hT HQX HYY HOO HKK
      replace h0 := eq_true h0
      replace h1 := eq_true h1
      have ho1 : Hid (∀ u ∈ (#[.int .i64 X.f0.f0, .string X.f0.f1, .string X.f0.f2, .int .i64 X.f0.f3, .int .i64 X.f0.f4, .int .i64 X.f0.f5, .int .i64 X.f0.f6, .int .i64 X.f0.f7.f0, .int .i64 X.f0.f7.f1, .string X.f0.f8, .string X.f0.f9, .int .i64 X.f0.f10, .int .i64 X.f0.f11, .slice A13 X.f0.f12.length c13, .slice A14 X.f1.length c14] : Array Value).toList, u.oneCell' = true) := Lib.hid (all15 rfl rfl rfl rfl rfl rfl rfl rfl rfl rfl rfl rfl rfl rfl rfl)
      go_wp2_with (first | ((with_reducible refine wpList_load_elem rfl 29 (.tmp 37) rfl (ad.add (x.toNat * 15)) rfl [.int .i64 X.f0.f0, .string X.f0.f1, .string X.f0.f2, .int .i64 X.f0.f3, .int .i64 X.f0.f4, .int .i64 X.f0.f5, .int .i64 X.f0.f6, .int .i64 X.f0.f7.f0, .int .i64 X.f0.f7.f1, .string X.f0.f8, .string X.f0.f9, .int .i64 X.f0.f10, .int .i64 X.f0.f11, .slice A13 X.f0.f12.length c13, .slice A14 X.f1.length c14] HCC.out _ Tryz.underlying29 rfl HSZ.out ?_)) | ((with_reducible refine wpList_store_new rfl 29 (.tmp 9) (.tmp 38) rfl #[.int .i64 0, .string ⟨#[]⟩, .string ⟨#[]⟩, .int .i64 0, .int .i64 0, .int .i64 0, .int .i64 0, .int .i64 0, .int .i64 0, .string ⟨#[]⟩, .string ⟨#[]⟩, .int .i64 0, .int .i64 0, .slice none 0 0, .slice none 0 0] #[.int .i64 X.f0.f0, .string X.f0.f1, .string X.f0.f2, .int .i64 X.f0.f3, .int .i64 X.f0.f4, .int .i64 X.f0.f5, .int .i64 X.f0.f6, .int .i64 X.f0.f7.f0, .int .i64 X.f0.f7.f1, .string X.f0.f8, .string X.f0.f9, .int .i64 X.f0.f10, .int .i64 X.f0.f11, .slice A13 X.f0.f12.length c13, .slice A14 X.f1.length c14] 29 rfl rfl (by kernel_rfl) (by kernel_rfl) ho1.out ?_); intro w3 bX3 hb3; have BX3 := Lib.hid bX3; have BP3 := Lib.hid (blk_below BP.out hb3); have HB3 := Lib.hid (below_step HB.out hb3); have HK3 := Lib.hid hb3; have c31 : w3.cell? ⟨wr.heap.size, 1, none⟩ = some (.string X.f0.f1) := (blk_cell BX3.out 1).trans rfl; clear bX3 hb3) | ((with_reducible refine wpList_load_blk rfl 52 (.tmp 2) rfl w.heap.size rfl BP3.out _ Tryz.underlying52 rfl (by kernel_rfl) ?_)))
      refine (HNA1.out _ HB3.out).mono ?_
      rintro e w4 ⟨rfl, hb⟩
      have HB4 := Lib.hid (below_step HB3.out hb)
      have BP4 := Lib.hid (blk_below BP3.out hb)
      have BX4 := Lib.hid (blk_below BX3.out hb)
      have HK4 := Lib.hid (below_then HK3.out HK3.out.size hb)
      have c42 : w4.cell? ⟨wr.heap.size, 2, none⟩ = some (.string X.f0.f2) := (blk_cell BX4.out 2).trans rfl
      clear hb c31 HB3 BP3 BX3 HK3 HCC HSZ ho1
      go_wp2_with ((with_reducible refine wpList_load_blk rfl 52 (.tmp 2) rfl w.heap.size rfl BP4.out _ Tryz.underlying52 rfl (by kernel_rfl) ?_))
      refine (HNA2.out _ HB4.out).mono ?_
      rintro e w5 ⟨rfl, hb⟩
      have HB5 := Lib.hid (below_step HB4.out hb)
      have BP5 := Lib.hid (blk_below BP4.out hb)
      have BX5 := Lib.hid (blk_below BX4.out hb)
      have HK5 := Lib.hid (below_then HK4.out HK4.out.size hb)
      have c51 : w5.cell? ⟨wr.heap.size, 1, none⟩ = some (.string X.f0.f1) := (blk_cell BX5.out 1).trans rfl
      clear hb c42 HB4 BP4 BX4 HK4
      go_wp2_with ((with_reducible refine wpList_load_blk rfl 52 (.tmp 2) rfl w.heap.size rfl BP5.out _ Tryz.underlying52 rfl (by kernel_rfl) ?_))
      refine (HTK.out _ HB5.out).mono ?_
      rintro e w6 ⟨rfl, hb⟩
      have HB6 := Lib.hid (below_step HB5.out hb)
      have BP6 := Lib.hid (blk_below BP5.out hb)
      have BX6 := Lib.hid (blk_below BX5.out hb)
      have HK6 := Lib.hid (below_then HK5.out HK5.out.size hb)
      have HV6 := Lib.hid (Kd.R_below HV.out HK6.out)
      have c60 : w6.cell? ⟨wr.heap.size, 0, none⟩ = some (.int .i64 X.f0.f0) := (blk_cell BX6.out 0).trans rfl
      clear hb c51 HB5 BP5 BX5 HK5 HNA1 HNA2 HTK
      cases T with
      | false =>
       have HK2 := Lib.hid (show itemsM (fun x => l.foldl (takeR x.f0.f1) all && oneOk st x) (oneX st px) p (l0.drop (n + 1)) acc = R from by rw [← HKR.out]; rfl)
       go_wp2
       go_roundg k
       case measure => omega
       case rel => exact ⟨_, acc, rfl, ⟨n + 1, HW.out, by have := HNN.out; omega, HK2.out, by have := HA.out; omega⟩, ⟨HV6.out⟩, ⟨BP6.out⟩, ⟨HB6.out⟩⟩
      | true =>
       cases O1 with
       | false =>
        have hoo : OO = false := by rw [← HO.out]; rfl
        subst hoo
        have HK2 := Lib.hid (show itemsM (fun x => l.foldl (takeR x.f0.f1) all && oneOk st x) (oneX st px) p (l0.drop (n + 1)) acc = R from by rw [← HKR.out]; rfl)
        go_wp2
        go_roundg k
        case measure => omega
        case rel => exact ⟨_, acc, rfl, ⟨n + 1, HW.out, by have := HNN.out; omega, HK2.out, by have := HA.out; omega⟩, ⟨HV6.out⟩, ⟨BP6.out⟩, ⟨HB6.out⟩⟩
       | true =>
        cases ha : decide (X.f0.f0 = 2) with
        | false =>
         have ha0 : (X.f0.f0 == 2) = false := by simpa using ha
         have han : ¬ X.f0.f0 = 2 := by simpa using ha
         have hoo : OO = true := by rw [← HO.out, if_neg han]; rfl
         subst hoo
         have hyy := HY.out
         rw [if_neg han] at hyy
         have HKY := Lib.hid (show k29.K w Y [.int .i64 X.f0.f0, .string N1, .string X.f0.f2, .int .i64 X.f0.f3, .int .i64 X.f0.f4, .int .i64 X.f0.f5, .int .i64 X.f0.f6, .int .i64 X.f0.f7.f0, .int .i64 X.f0.f7.f1, .string X.f0.f8, .string X.f0.f9, .int .i64 X.f0.f10, .int .i64 X.f0.f11, .slice A13 X.f0.f12.length c13, .slice A14 X.f1.length c14] from by
          subst hyy
          obtain ⟨e13, g13, e14, g14⟩ := G.out
          refine k29_mk w _ ?_ ?_ ?_ ?_ <;> assumption)
         have HRT := Lib.hid (fun W (hB : Below w.heap.size w W) cs (hK : k29.K w Y cs) => qright_calls K Y cs (p Y) W (k29.K_below hB hK) (HQY.out rfl))
         clear ha han hyy
         go_wp2_with (first | ((with_reducible refine wpList_store_fld rfl 9 (.tmp 77) (.tmp 75) rfl wr.heap.size 1 (.string N1) rfl rfl BX6.out (by kernel_rfl) (by kernel_rfl) (one_str _) ?_); intro w7 bX7 hf7 hs7 hk7; have BX7 := Lib.hid (show w7.heap[wr.heap.size]? = some (.cells #[.int .i64 X.f0.f0, .string N1, .string X.f0.f2, .int .i64 X.f0.f3, .int .i64 X.f0.f4, .int .i64 X.f0.f5, .int .i64 X.f0.f6, .int .i64 X.f0.f7.f0, .int .i64 X.f0.f7.f1, .string X.f0.f8, .string X.f0.f9, .int .i64 X.f0.f10, .int .i64 X.f0.f11, .slice A13 X.f0.f12.length c13, .slice A14 X.f1.length c14] 29 (0, 0)) from bX7); have HB7 := Lib.hid (hk7 _ _ HWS.out HB6.out); have HK7 := Lib.hid (hk7 _ _ (Nat.le_refl _) HK6.out); have c70 : w7.cell? ⟨wr.heap.size, 0, none⟩ = some (.int .i64 X.f0.f0) := (blk_cell BX7.out 0).trans rfl; clear bX7 hf7 hs7 hk7) | ((with_reducible refine wpList_load_blk rfl 29 (.tmp 9) rfl wr.heap.size rfl BX7.out _ Tryz.underlying29 rfl (by kernel_rfl) ?_)))
         refine (HRT.out _ HB7.out _ (HKY.out)).mono ?_
         rintro e w9 ⟨rfl, hb⟩
         have HB9 := Lib.hid (below_step HB7.out hb)
         have BX9 := Lib.hid (blk_below BX7.out hb)
         have HK9 := Lib.hid (show Below wr.heap.size wr w9 from below_then HK7.out HK7.out.size hb)
         have HV9 := Lib.hid (Kd.R_below HV.out HK9.out)
         have BP9 := Lib.hid (blk_below BP.out HK9.out)
         clear hb
         cases hpy : p Y with
         | false =>
          have hres : R = none := by rw [← HKR.out, hpy]; rfl
          subst hres
          go_wp2
          go_ret2
          exact ⟨_, rfl, ⟨none, 0, rfl, Nat.le_refl _, hnone.out _⟩, HB9.out⟩
         | true =>
          have HK2 := Lib.hid (show itemsM (fun x => l.foldl (takeR x.f0.f1) all && oneOk st x) (oneX st px) p (l0.drop (n + 1)) (acc ++ [Y]) = R from by rw [← HKR.out, hpy]; rfl)
          clear hpy HKR
          go_wp2_with (first | ((with_reducible refine wpList_load_blk rfl 29 (.tmp 9) rfl wr.heap.size rfl BX9.out _ Tryz.underlying29 rfl (by kernel_rfl) ?_)) | ((with_reducible refine gate_builtin (b := .append) (xs := #[.tmp 88, .tmp 90]) rfl ?_); at_builtin; refine Kd.R_append (heldK w) (w0 := w) w.heap.size rfl (.tmp 88) (.tmp 90) 32 29 (.agg #[.int .i64 0, .string ⟨#[]⟩, .string ⟨#[]⟩, .int .i64 0, .int .i64 0, .int .i64 0, .int .i64 0, .int .i64 0, .int .i64 0, .string ⟨#[]⟩, .string ⟨#[]⟩, .int .i64 0, .int .i64 0, .slice none 0 0, .slice none 0 0]) 184 rfl Tryz.underlying32 infoIt rfl (Nat.succ_pos 14) (by omega) u7 acc Y [.int .i64 X.f0.f0, .string N1, .string X.f0.f2, .int .i64 X.f0.f3, .int .i64 X.f0.f4, .int .i64 X.f0.f5, .int .i64 X.f0.f6, .int .i64 X.f0.f7.f0, .int .i64 X.f0.f7.f1, .string X.f0.f8, .string X.f0.f9, .int .i64 X.f0.f10, .int .i64 X.f0.f11, .slice A13 X.f0.f12.length c13, .slice A14 X.f1.length c14] (fun _ => True) (fun k => True ∧ some k ≠ u7.ownBlock) rfl rfl ?aP (fun _ h => h) ?aF ?aO ?aB ?aS ?aL ?_; (case aP => exact HKY.out); (case aF => exact (fun _ _ => trivial)); (case aO => exact HV9.out); (case aB => exact HB9.out); (case aS => exact HB9.out.size); (case aL => have h1 := HA.out; have h2 := HNN.out; have h3 := HL.out; omega); intro v10 w10 hR10 hB10 hg10 hat10; have HV10 := Lib.hid hR10; have HB10 := Lib.hid hB10; have BP10 := Lib.hid (blk_grown BP9.out hg10 (Kd.R_ne HV9.out BP9.out (by decide))); clear hR10 hB10 hg10 hat10))
          go_roundg k
          case measure => omega
          case rel => exact ⟨_, acc ++ [Y], rfl, ⟨n + 1, HW.out, by have := HNN.out; omega, HK2.out, by have := HA.out; simp; omega⟩, ⟨HV10.out⟩, ⟨BP10.out⟩, ⟨HB10.out⟩⟩
        | true =>
         have ha0 : (X.f0.f0 == 2) = true := by simpa using ha
         have han : X.f0.f0 = 2 := by simpa using ha
         cases O2 with
         | false =>
          have hoo : OO = false := by rw [← HO.out, if_pos han]; rfl
          subst hoo
          clear ha han
          have HK2 := Lib.hid (show itemsM (fun x => l.foldl (takeR x.f0.f1) all && oneOk st x) (oneX st px) p (l0.drop (n + 1)) acc = R from by rw [← HKR.out]; rfl)
          go_wp2
          go_roundg k
          case measure => omega
          case rel => exact ⟨_, acc, rfl, ⟨n + 1, HW.out, by have := HNN.out; omega, HK2.out, by have := HA.out; omega⟩, ⟨HV6.out⟩, ⟨BP6.out⟩, ⟨HB6.out⟩⟩
         | true =>
          have hoo : OO = true := by rw [← HO.out, if_pos han]; rfl
          subst hoo
          have hyy := HY.out
          rw [if_pos han] at hyy
          have HKY := Lib.hid (show k29.K w Y [.int .i64 X.f0.f0, .string N1, .string N2, .int .i64 X.f0.f3, .int .i64 X.f0.f4, .int .i64 X.f0.f5, .int .i64 X.f0.f6, .int .i64 X.f0.f7.f0, .int .i64 X.f0.f7.f1, .string X.f0.f8, .string X.f0.f9, .int .i64 X.f0.f10, .int .i64 X.f0.f11, .slice A13 X.f0.f12.length c13, .slice A14 X.f1.length c14] from by
           subst hyy
           obtain ⟨e13, g13, e14, g14⟩ := G.out
           refine k29_mk w _ ?_ ?_ ?_ ?_ <;> assumption)
          have HRT := Lib.hid (fun W (hB : Below w.heap.size w W) cs (hK : k29.K w Y cs) => qright_calls K Y cs (p Y) W (k29.K_below hB hK) (HQY.out rfl))
          clear ha han hyy
          go_wp2_with (first | ((with_reducible refine wpList_store_fld rfl 9 (.tmp 77) (.tmp 75) rfl wr.heap.size 1 (.string N1) rfl rfl BX6.out (by kernel_rfl) (by kernel_rfl) (one_str _) ?_); intro w7 bX7 hf7 hs7 hk7; have BX7 := Lib.hid (show w7.heap[wr.heap.size]? = some (.cells #[.int .i64 X.f0.f0, .string N1, .string X.f0.f2, .int .i64 X.f0.f3, .int .i64 X.f0.f4, .int .i64 X.f0.f5, .int .i64 X.f0.f6, .int .i64 X.f0.f7.f0, .int .i64 X.f0.f7.f1, .string X.f0.f8, .string X.f0.f9, .int .i64 X.f0.f10, .int .i64 X.f0.f11, .slice A13 X.f0.f12.length c13, .slice A14 X.f1.length c14] 29 (0, 0)) from bX7); have HB7 := Lib.hid (hk7 _ _ HWS.out HB6.out); have HK7 := Lib.hid (hk7 _ _ (Nat.le_refl _) HK6.out); have c70 : w7.cell? ⟨wr.heap.size, 0, none⟩ = some (.int .i64 X.f0.f0) := (blk_cell BX7.out 0).trans rfl; clear bX7 hf7 hs7 hk7) | ((with_reducible refine wpList_store_fld rfl 9 (.tmp 84) (.tmp 82) rfl wr.heap.size 2 (.string N2) rfl rfl BX7.out (by kernel_rfl) (by kernel_rfl) (one_str _) ?_); intro w8 bX8 hf8 hs8 hk8; have BX8 := Lib.hid (show w8.heap[wr.heap.size]? = some (.cells #[.int .i64 X.f0.f0, .string N1, .string N2, .int .i64 X.f0.f3, .int .i64 X.f0.f4, .int .i64 X.f0.f5, .int .i64 X.f0.f6, .int .i64 X.f0.f7.f0, .int .i64 X.f0.f7.f1, .string X.f0.f8, .string X.f0.f9, .int .i64 X.f0.f10, .int .i64 X.f0.f11, .slice A13 X.f0.f12.length c13, .slice A14 X.f1.length c14] 29 (0, 0)) from bX8); have HB8 := Lib.hid (hk8 _ _ HWS.out HB7.out); have HK8 := Lib.hid (hk8 _ _ (Nat.le_refl _) HK7.out); clear bX8 hf8 hs8 hk8) | ((with_reducible refine wpList_load_blk rfl 29 (.tmp 9) rfl wr.heap.size rfl BX8.out _ Tryz.underlying29 rfl (by kernel_rfl) ?_)))
          refine (HRT.out _ HB8.out _ (HKY.out)).mono ?_
          rintro e w9 ⟨rfl, hb⟩
          have HB9 := Lib.hid (below_step HB8.out hb)
          have BX9 := Lib.hid (blk_below BX8.out hb)
          have HK9 := Lib.hid (show Below wr.heap.size wr w9 from below_then HK8.out HK8.out.size hb)
          have HV9 := Lib.hid (Kd.R_below HV.out HK9.out)
          have BP9 := Lib.hid (blk_below BP.out HK9.out)
          clear hb
          cases hpy : p Y with
          | false =>
           have hres : R = none := by rw [← HKR.out, hpy]; rfl
           subst hres
           go_wp2
           go_ret2
           exact ⟨_, rfl, ⟨none, 0, rfl, Nat.le_refl _, hnone.out _⟩, HB9.out⟩
          | true =>
           have HK2 := Lib.hid (show itemsM (fun x => l.foldl (takeR x.f0.f1) all && oneOk st x) (oneX st px) p (l0.drop (n + 1)) (acc ++ [Y]) = R from by rw [← HKR.out, hpy]; rfl)
           clear hpy HKR
           go_wp2_with (first | ((with_reducible refine wpList_load_blk rfl 29 (.tmp 9) rfl wr.heap.size rfl BX9.out _ Tryz.underlying29 rfl (by kernel_rfl) ?_)) | ((with_reducible refine gate_builtin (b := .append) (xs := #[.tmp 88, .tmp 90]) rfl ?_); at_builtin; refine Kd.R_append (heldK w) (w0 := w) w.heap.size rfl (.tmp 88) (.tmp 90) 32 29 (.agg #[.int .i64 0, .string ⟨#[]⟩, .string ⟨#[]⟩, .int .i64 0, .int .i64 0, .int .i64 0, .int .i64 0, .int .i64 0, .int .i64 0, .string ⟨#[]⟩, .string ⟨#[]⟩, .int .i64 0, .int .i64 0, .slice none 0 0, .slice none 0 0]) 184 rfl Tryz.underlying32 infoIt rfl (Nat.succ_pos 14) (by omega) u7 acc Y [.int .i64 X.f0.f0, .string N1, .string N2, .int .i64 X.f0.f3, .int .i64 X.f0.f4, .int .i64 X.f0.f5, .int .i64 X.f0.f6, .int .i64 X.f0.f7.f0, .int .i64 X.f0.f7.f1, .string X.f0.f8, .string X.f0.f9, .int .i64 X.f0.f10, .int .i64 X.f0.f11, .slice A13 X.f0.f12.length c13, .slice A14 X.f1.length c14] (fun _ => True) (fun k => True ∧ some k ≠ u7.ownBlock) rfl rfl ?aP (fun _ h => h) ?aF ?aO ?aB ?aS ?aL ?_; (case aP => exact HKY.out); (case aF => exact (fun _ _ => trivial)); (case aO => exact HV9.out); (case aB => exact HB9.out); (case aS => exact HB9.out.size); (case aL => have h1 := HA.out; have h2 := HNN.out; have h3 := HL.out; omega); intro v10 w10 hR10 hB10 hg10 hat10; have HV10 := Lib.hid hR10; have HB10 := Lib.hid hB10; have BP10 := Lib.hid (blk_grown BP9.out hg10 (Kd.R_ne HV9.out BP9.out (by decide))); clear hR10 hB10 hg10 hat10))
           go_roundg k
           case measure => omega
           case rel => exact ⟨_, acc ++ [Y], rfl, ⟨n + 1, HW.out, by have := HNN.out; omega, HK2.out, by have := HA.out; simp; omega⟩, ⟨HV10.out⟩, ⟨BP10.out⟩, ⟨HB10.out⟩⟩
end Go.Proofs.YtejdmofljifkbaaGreatDoor.P
namespace Go.Proofs.YtejdmofljifkbaaGreatDoor.Gl
open Go.RowKit Go.Proofs.YtejdmofljifkbaaGreatDoorW.PrintWords
theorem far_fn (s t : ByteArray) : ∃ b : Bool, (b = false → s.size ≤ 60 ∧ t.size ≤ 60) ∧ ∀ w, Calls Tryz.prog 44 #[.string s, .string t] w fun e w' => e = .returned (.bool b) ∧ Below w.heap.size w w' := by
 by_cases h1 : 60 < s.size
 ·refine ⟨true, fun h => Bool.noConfusion h, fun w => ?_⟩
  have hd : decide (60 < s.size) = true := decide_eq_true h1
  go_enter Tryz.func44, Tryz.ntmps44
  go_wp2
  go_ret
  exact ⟨rfl, Below.refl _ _⟩
 ·have hd : decide (60 < s.size) = false := decide_eq_false h1
  by_cases h2 : 60 < t.size
  ·refine ⟨true, fun h => Bool.noConfusion h, fun w => ?_⟩
   have hd2 : decide (60 < t.size) = true := decide_eq_true h2
   go_enter Tryz.func44, Tryz.ntmps44
   go_wp2
   go_ret
   exact ⟨rfl, Below.refl _ _⟩
  ·have hd2 : decide (60 < t.size) = false := decide_eq_false h2
   obtain ⟨r0, hr0⟩ := pcL_some (s.size + 1) s.data.toList [] (by rw [data_length]; omega)
   have hdi : decide ((60 : Int) < (s.size : Int)) = false := decide_eq_false (by omega)
   have hdi2 : decide ((60 : Int) < (t.size : Int)) = false := decide_eq_false (by omega)
   refine ⟨decide ((4 : Int) < ((starsR r0 : Nat) : Int)), fun _ => ⟨by omega, by omega⟩, fun w => ?_⟩
   have HS := Lib.hid (stars_ref s r0 hr0 (by omega))
   clear hr0
   go_enter Tryz.func44, Tryz.ntmps44
   go_wp2_with fail
   refine (HS.out _).mono ?_
   rintro e w1 ⟨rfl, hb⟩
   go_wp2
   go_ret
   exact ⟨by first | rfl | simp, hb⟩
end Go.Proofs.YtejdmofljifkbaaGreatDoor.Gl
namespace Go.Proofs.YtejdmofljifkbaaGreatDoor.P
open Go.RowKit Go.Shelf Go.Sort Go.Proofs.YtejdmofljifkbaaGreatDoorW.PrintWords Go.Proofs.YtejdmofljifkbaaGreatDoorW.PrintLast Go.Proofs.YtejdmofljifkbaaGreatDoorW.PrintMore
set_option linter.unusedVariables false
def Near (rs : List Ru) (px : ByteArray) (l : List It) : Prop := rs.length ≤ 6 ∧ px.size ≤ 70000 ∧ ∀ r ∈ rs, r.f1.size ≤ 60 ∧ ∀ x ∈ l, x.f0.f1.size ≤ 60
def FarPost (rs : List Ru) (px : ByteArray) (l : List It) (w w' : World) (e : Ending) : Prop := ∃ b, e = .returned (.bool b) ∧ (b = false → Near rs px l) ∧ Below w.heap.size w w'
set_option maxRecDepth 100000 in
set_option maxHeartbeats 6400000 in
theorem far_calls (all : Bool) (A : Option Addr) (cap : Nat) (rs : List Ru) (st : Int) (px : ByteArray) (w : World) (hr : Kd.C k45 w A rs.length rs) (A0 : Option Addr) (c0 : Nat) (l0 : List It) (hr0 : Kd.C k29 w A0 l0.length l0) (hc0 : l0.length ≤ c0) (hl : l0.length ≤ 2000000) (hx0 : ∀ x ∈ l0, x.f0.f12.length ≤ 1048576) :
  Calls Tryz.prog 16 #[.agg #[.bool all, .slice A rs.length cap, .int .i64 st, .string px], .slice A0 l0.length c0] w fun e w' => FarPost rs px l0 w w' e := by
 have hu1 := Tryz.underlying43
 have hu2 := Tryz.underlying45
 have hu3 := Tryz.underlying29
 have hu4 := Tryz.underlying26
 have HR := Lib.hid hr
 have HR0 := Lib.hid hr0
 have HL := Lib.hid hl
 have HMN := Lib.hid (fun W (hB : Below w.heap.size w W) => many_any A0 c0 l0 W (Kd.C_below hr0 hB) hc0 hl hx0)
 have HB0 := Lib.hid ((Below.refl w.heap.size w).alloc (Nat.le_refl _) (.cells #[.bool all, .slice A rs.length cap, .int .i64 st, .string px] 43))
 have BP0 := Lib.hid (heap_alloc_new w (.cells #[.bool all, .slice A rs.length cap, .int .i64 st, .string px] 43))
 clear hr hr0 hc0 hl hx0
 by_cases h1 : 6 < rs.length
 ·have hd : decide (6 < rs.length) = true := decide_eq_true h1
  have hd' : decide ((6 : Int) < (rs.length : Int)) = true := decide_eq_true (by omega)
  clear h1
  go_enter Tryz.func16, Tryz.ntmps16
  go_wp2_with fail
  go_ret
  exact ⟨true, rfl, fun h => Bool.noConfusion h, HB0.out⟩
 ·have hd : decide (6 < rs.length) = false := decide_eq_false h1
  have hd' : decide ((6 : Int) < (rs.length : Int)) = false := decide_eq_false (by omega)
  by_cases h2 : 70000 < px.size
  ·have hd2 : decide (70000 < px.size) = true := decide_eq_true h2
   have hd2' : decide ((70000 : Int) < (px.size : Int)) = true := decide_eq_true (by omega)
   clear h1 h2
   go_enter Tryz.func16, Tryz.ntmps16
   go_wp2_with fail
   go_ret
   exact ⟨true, rfl, fun h => Bool.noConfusion h, HB0.out⟩
  ·have hd2 : decide (70000 < px.size) = false := decide_eq_false h2
   have hd2' : decide ((70000 : Int) < (px.size : Int)) = false := decide_eq_false (by omega)
   have HN := Lib.hid (show rs.length ≤ 6 ∧ px.size ≤ 70000 from ⟨by omega, by omega⟩)
   clear h1 h2
   go_enter Tryz.func16, Tryz.ntmps16
   go_wp2_with fail
   refine (HMN.out _ HB0.out).mono ?_
   rintro e w1 ⟨⟨b, rfl⟩, hb⟩
   have HB1 := Lib.hid (below_step HB0.out hb)
   have BP1 := Lib.hid ((hb.block _ (by simp)).trans BP0.out)
   clear hb HB0 BP0 HMN
   cases b with
   | true =>
    go_wp2
    go_ret
    exact ⟨true, rfl, fun h => Bool.noConfusion h, HB1.out⟩
   | false =>
    clear hd hd2 hd' hd2'
    go_wp2_with fail
    go_loopg [5] (rs.length) (fun gk v5 wr => ∃ (x : Int), v5 = .int .i64 x ∧ Aside0 (∃ n : Nat, x = (n : Int) ∧ n + gk = rs.length ∧ ∀ r ∈ rs.take n, r.f1.size ≤ 60 ∧ ∀ x ∈ l0, x.f0.f1.size ≤ 60) ∧ Aside0 (wr.heap[w.heap.size]? = some (.cells #[.bool all, .slice A rs.length cap, .int .i64 st, .string px] 43 (0, 0))) ∧ Aside0 (Below w.heap.size w wr))
    case atStart => exact ⟨0, rfl, ⟨0, rfl, by omega, by simp⟩, ⟨BP1.out⟩, ⟨HB1.out⟩⟩
    case round =>
     clear HB1 BP1
     obtain ⟨x, rfl, HNX, BP, HB⟩ := hrel
     obtain ⟨n, hx, hn, hk⟩ := HNX.out
     have c1 : wr.cell? ⟨w.heap.size, 1, none⟩ = some (.slice A rs.length cap) := (blk_cell BP.out 1).trans rfl
     cases gk with
     | zero =>
      have hlt : decide (x < (rs.length : Int)) = false := decide_eq_false (by omega)
      have HK := Lib.hid (show ∀ r ∈ rs, r.f1.size ≤ 60 ∧ ∀ x ∈ l0, x.f0.f1.size ≤ 60 from by rwa [List.take_of_length_le (by omega)] at hk)
      clear hx hn hk HNX
      go_wp2
      go_ret
      exact ⟨false, rfl, fun _ => ⟨HN.out.1, HN.out.2, HK.out⟩, HB.out⟩
     | succ k =>
      have hi : n < rs.length := by omega
      have h0 : (0 : Int) ≤ x := by omega
      have h1 : x < (rs.length : Int) := by omega
      have hlt : decide (x < (rs.length : Int)) = true := decide_eq_true h1
      obtain ⟨ad, rfl, hx0, hx1⟩ := at_T45 (Kd.C_below HR.out HB.out) x h0 h1
      have hget : rs.take (n + 1) = rs.take n ++ [rd_T45 rs x] := by
       rw [List.take_succ_eq_append_getElem hi]
       congr 2
       unfold rd_T45
       rw [hx, Int.toNat_natCast, List.getD_eq_getElem?_getD, List.getElem?_eq_getElem hi]
       rfl
      have HG := Lib.hid hget
      have hw : wrap64 (x + 1) = ((n + 1 : Nat) : Int) := by
       have := HN.out.1
       rw [hx, show (n : Int) + 1 = ((n + 1 : Nat) : Int) by omega, w64n _ (by omega)]
      have HW := Lib.hid hw
      have HNN := Lib.hid hn
      have HKK := Lib.hid hk
      clear hget hw hx hn hk hi HNX
      generalize rd_T45 rs x = X at *
      obtain ⟨b0, hb0, hc0⟩ := Gl.far_fn X.f1 ⟨#[]⟩
      have HB00 := Lib.hid hb0
      have HX1 := Lib.hid hx1
      clear hb0
      replace h0 := eq_true h0
      replace h1 := eq_true h1
      have HC0 := Lib.hid hc0
      clear hc0
      go_wp2_with fail
      refine (HC0.out _).mono ?_
      rintro e w2 ⟨rfl, hb⟩
      have HB2 := Lib.hid (below_step HB.out hb)
      have BP2 := Lib.hid (blk_below BP.out hb)
      have HX2 := Lib.hid ((hb.cell (World.block_lt_of_cell? wr _ HX1.out)).trans HX1.out)
      clear hb HC0 c1 hx0 hx1 HX1
      cases b0 with
      | true =>
       go_wp2
       go_ret
       exact ⟨true, rfl, fun h => Bool.noConfusion h, HB2.out⟩
      | false =>
       have HP60 := Lib.hid (HB00.out rfl).1
       obtain ⟨k0, hk0⟩ : ∃ k0, k = k0 := ⟨_, rfl⟩
       go_wp2_with fail
       go_loopg [6] (l0.length) (fun gk v6 wz => ∃ (y : Int), v6 = .int .i64 y ∧ Aside0 (∃ m : Nat, y = (m : Int) ∧ m + gk = l0.length ∧ ∀ x ∈ l0.take m, x.f0.f1.size ≤ 60) ∧ Aside0 (wz.heap[w.heap.size]? = some (.cells #[.bool all, .slice (some ad) rs.length cap, .int .i64 st, .string px] 43 (0, 0))) ∧ Aside0 (wz.cell? ⟨(ad.add (x.toNat * 2)).block, (ad.add (x.toNat * 2)).off + 1, none⟩ = some (.string X.f1)) ∧ Aside0 (Below w.heap.size w wz))
       case atStart => exact ⟨0, rfl, ⟨0, rfl, by omega, by simp⟩, ⟨BP2.out⟩, ⟨HX2.out⟩, ⟨HB2.out⟩⟩
       case round =>
        clear HB2 BP2 HX2 HB BP
        obtain ⟨y, rfl, HM, BP, HX, HB⟩ := hrel
        obtain ⟨m, hy, hm, hq⟩ := HM.out
        cases gk with
        | zero =>
         have hlt2 : decide (y < (l0.length : Int)) = false := decide_eq_false (by omega)
         have HKA := Lib.hid (show ∀ r ∈ rs.take (n + 1), r.f1.size ≤ 60 ∧ ∀ x ∈ l0, x.f0.f1.size ≤ 60 from by
          rw [List.take_of_length_le (by omega)] at hq
          rw [HG.out]
          intro r hr
          rcases List.mem_append.1 hr with h | h
          ·exact HKK.out r h
          ·rw [List.mem_singleton] at h
           subst h
           exact ⟨HP60.out, hq⟩)
         clear hy hm hq HM
         go_wp2
         go_roundg k0
         case measure => omega
         case rel => exact ⟨_, rfl, ⟨n + 1, HW.out, by have := HNN.out; omega, HKA.out⟩, ⟨BP.out⟩, ⟨HB.out⟩⟩
        | succ g =>
         have hi : m < l0.length := by omega
         have y0 : (0 : Int) ≤ y := by omega
         have y1 : y < (l0.length : Int) := by omega
         have hlt2 : decide (y < (l0.length : Int)) = true := decide_eq_true y1
         obtain ⟨ad2, A13, c13, A14, c14, rfl, k0_, k1_, _⟩ := at_T29 (Kd.C_below HR0.out HB.out) y y0 y1
         have hget2 : l0.take (m + 1) = l0.take m ++ [rd_T29 l0 y] := by
          rw [List.take_succ_eq_append_getElem hi]
          congr 2
          unfold rd_T29
          rw [hy, Int.toNat_natCast, List.getD_eq_getElem?_getD, List.getElem?_eq_getElem hi]
          rfl
         have HG2 := Lib.hid hget2
         have hw2 : wrap64 (y + 1) = ((m + 1 : Nat) : Int) := by
          have := HL.out
          rw [hy, show (m : Int) + 1 = ((m + 1 : Nat) : Int) by omega, w64n _ (by omega)]
         have HW2 := Lib.hid hw2
         have HMM := Lib.hid hm
         have HQ := Lib.hid hq
         clear hget2 hw2 hy hm hq hi HM k0_
         generalize rd_T29 l0 y = Y at *
         obtain ⟨b1, hb1, hc1⟩ := Gl.far_fn X.f1 Y.f0.f1
         have HB11 := Lib.hid hb1
         have e1 := cell_regrown (show wr.cell? ⟨w.heap.size, 1, none⟩ = some (.slice (some ad) rs.length cap) from (blk_cell BP.out 1).trans rfl)
         have e2 := cell_regrown HX.out
         have e3 := cell_regrown k1_
         have kF : ∀ dd os, Calls Tryz.prog 44 #[.string X.f1, .string Y.f0.f1] (grow (redrawn wr dd) os) fun e w'' => e = .returned (.bool b1) ∧ ∃ p : Regrown, w'' = grow (redrawn wr p.d) p.os := fun dd os => Calls.regrown_of (hc1 _)
         have KF := Lib.hid kF
         clear hb1 hc1 kF k1_
         replace y0 := eq_true y0
         replace y1 := eq_true y1
         go_wp2_with fail
         refine wp_region_quiet_below (by kernel_rfl) (by kernel_rfl) ?_
         repeat (quiet_step ((with_reducible exact KF.out _ _)))
         refine wpQuiet_nil ?_
         intro _ hw'
         obtain ⟨⟨dq, osq⟩, hw''⟩ := hw'
         subst hw''
         have hbz := below_regrown wr dq osq
         have HB3 := Lib.hid (below_step HB.out hbz)
         have BP3 := Lib.hid (blk_below BP.out hbz)
         have HX3 := Lib.hid ((hbz.cell (World.block_lt_of_cell? wr _ HX.out)).trans HX.out)
         clear hbz e1 e2 e3 KF
         generalize grow (redrawn wr dq) osq = w3 at *
         cases b1 with
         | true =>
          go_wp2
          go_ret
          exact ⟨true, rfl, fun h => Bool.noConfusion h, HB3.out⟩
         | false =>
          have HQ2 := Lib.hid (show ∀ x ∈ l0.take (m + 1), x.f0.f1.size ≤ 60 from by
           rw [HG2.out]
           intro r hr
           rcases List.mem_append.1 hr with h | h
           ·exact HQ.out r h
           ·rw [List.mem_singleton] at h
            subst h
            exact (HB11.out rfl).2)
          go_wp2
          go_roundg g
          case measure => omega
          case rel => exact ⟨_, rfl, ⟨m + 1, HW2.out, by have := HMM.out; omega, HQ2.out⟩, ⟨BP3.out⟩, ⟨HX3.out⟩, ⟨HB3.out⟩⟩
end Go.Proofs.YtejdmofljifkbaaGreatDoor.P
namespace Go.Proofs.YtejdmofljifkbaaGreatDoor.P
open Go.RowKit Go.Proofs.YtejdmofljifkbaaGreatDoorW.PrintWords Go.Proofs.YtejdmofljifkbaaGreatDoorW.PrintLast Go.Proofs.YtejdmofljifkbaaGreatDoorW.PrintMore
def valF (a : Nat) (l : List UInt8) : Nat := l.foldl (fun a c => 10 * a + (c.toNat - 48)) a
theorem valF_cons (a : Nat) (c : UInt8) (t : List UInt8) : valF a (c :: t) = valF (10 * a + (c.toNat - 48)) t := List.foldl_cons ..
theorem valF_nil (a : Nat) : valF a [] = a := List.foldl_nil ..
theorem valF_ge : ∀ (l : List UInt8) (a : Nat), a ≤ valF a l
 | [], _ => Nat.le_refl _
 | c :: t, a => by
  have := valF_ge t (10 * a + (c.toNat - 48))
  rw [valF_cons]
  omega
def natOK (l : List UInt8) : Bool := (digL l && !l.isEmpty) && !(l.head? == some 48 && decide (1 < l.length)) && decide (valF 0 l ≤ 9223372036854775808)
theorem step_w (a d : Nat) (h : 10 * a + d ≤ 9223372036854775808) : wrap64 (wrap64 (10 * -(a : Int)) - (d : Int)) = -((10 * a + d : Nat) : Int) := by
 rw [w64 (10 * -(a : Int)) (by omega) (by omega), w64 _ (by omega) (by omega)]
 omega
theorem digL_cons {c : UInt8} {t : List UInt8} (h : digL (c :: t) = true) : 48 ≤ c.toNat ∧ c.toNat ≤ 57 ∧ digL t = true := by
 simp only [digL, List.all_cons, Bool.and_eq_true, decide_eq_true_eq] at h
 exact ⟨h.1.1, h.1.2, by simpa [digL] using h.2⟩
theorem parse_val (M : Nat) (hM : M = 18446744073709551615) (l : List UInt8) : ∀ a : Nat, digL l = true → a ≤ M → Lib.parseUintM M a l = if valF a l ≤ M then .ok (valF a l) else .range := by
 induction l with
 | nil =>
  intro a _ h
  rw [valF_nil, if_pos h, Lib.parseUintM]
 | cons c t ih =>
  intro a hd h
  obtain ⟨h1, h2, h3⟩ := digL_cons hd
  have hg := valF_ge t (10 * a + (c.toNat - 48))
  rw [valF_cons]
  rw [Lib.parseUintM]
  rw [if_pos ⟨h1, h2⟩, show a * 10 + (c.toNat - 48) = 10 * a + (c.toNat - 48) by omega]
  by_cases c1 : 1844674407370955162 ≤ a
  ·rw [if_pos c1, if_neg (by omega)]
  ·rw [if_neg c1]
   by_cases c2 : M < 10 * a + (c.toNat - 48)
   ·rw [if_pos c2, if_neg (by omega)]
   ·rw [if_neg c2]
    exact ih _ h3 (by omega)
theorem natL_is (l : List UInt8) : (natL l).2 = natOK l ∧ (natOK l = true → (natL l).1 = valF 0 l) := by
 unfold natL natOK
 by_cases h1 : (digL l && !l.isEmpty) = true
 ·rw [if_pos h1, h1]
  by_cases h2 : (l.head? == some 48 && decide (1 < l.length)) = true
  ·rw [if_pos h2, h2]
   simp
  ·rw [if_neg h2]
   rw [Bool.not_eq_true] at h2
   rw [h2]
   have hd : digL l = true := by
    rw [Bool.and_eq_true] at h1; exact h1.1
   have hne : l ≠ [] := by
    rw [Bool.and_eq_true] at h1
    intro h; rw [h] at h1; simp at h1
   have hp : Lib.parseUintB 64 l = if valF 0 l ≤ 18446744073709551615 then .ok (valF 0 l) else .range := by
    unfold Lib.parseUintB
    rw [if_neg hne]
    exact parse_val _ rfl l 0 hd (Nat.zero_le _)
   rw [hp]
   by_cases h3 : valF 0 l ≤ 18446744073709551615
   ·rw [if_pos h3]
    simp
   ·rw [if_neg h3]
    have : ¬ valF 0 l ≤ 9223372036854775808 := by omega
    simp [this]
 ·rw [if_neg h1]
  rw [Bool.not_eq_true] at h1
  rw [h1]
  simp
theorem only_l0 (s : ByteArray) (hs : s.size ≤ 1099511627776) : ∀ (k n : Nat) (l : List UInt8), Pos s n l → l.length < k →
  oakumref04_only.l0 k s (n : Int) = some (digL l && decide (0 < s.size))
 | 0, n, l, hp, hk => by omega
 | k + 1, n, [], hp, hk => by
  have := hp.len
  simp at this
  simp only [oakumref04_only.l0]
  rw [if_neg (by omega)]
  congr 1
  rw [Bool.eq_iff_iff]
  simp [digL]
 | k + 1, n, c :: t, hp, hk => by
  have hlt := hp.lt
  have hb := hp.bt
  have ih := only_l0 s hs k (n + 1) t hp.next (by simpa using hk)
  have hw : wrap64 ((n : Int) + 1) = ((n + 1 : Nat) : Int) := by unfold wrap64; omega
  simp only [oakumref04_only.l0]
  rw [if_pos (by omega), if_pos (by omega), hb, hw, ih]
  by_cases h1 : c.toNat < 48
  ·rw [if_pos (by omega)]
   simp [digL, show ¬ 48 ≤ c.toNat by omega]
  ·rw [if_neg (by omega)]
   by_cases h2 : 57 < c.toNat
   ·rw [if_pos (by omega)]
    simp [digL, show ¬ c.toNat ≤ 57 by omega]
   ·rw [if_neg (by omega)]
    simp [digL, show 48 ≤ c.toNat by omega, show c.toNat ≤ 57 by omega]
theorem pos_empty (s : ByteArray) : decide (0 < s.size) = !s.data.toList.isEmpty := by
 rw [← data_length]
 cases s.data.toList <;> simp
theorem only_f (s : ByteArray) (hs : s.size ≤ 1099511627776) (k : Nat) (hk : s.size < k) : oakumref04_only.f k s = some (digL s.data.toList && !s.data.toList.isEmpty) := by
 rw [← pos_empty]
 exact only_l0 s hs k 0 _ (Pos.zero s) (by rw [data_length]; exact hk)
theorem below_l0 (s : ByteArray) (hs : s.size ≤ 1099511627776) (B : Nat) (hB : B = 9223372036854775808) (l : List UInt8) : ∀ (k n a : Nat), Pos s n l → l.length < k → digL l = true → a ≤ B →
  oakumref04_Below.l0 k s (-(a : Int)) (n : Int) = some (if valF a l ≤ B then (-((valF a l : Nat) : Int), true) else (0, false)) := by
 induction l with
 | nil =>
  intro k n a hp hk _ ha
  obtain ⟨k, rfl⟩ : ∃ m, k = m + 1 := ⟨k - 1, by simp at hk; omega⟩
  have := hp.len
  simp at this
  simp only [oakumref04_Below.l0]
  rw [if_neg (by omega)]
  rw [valF_nil, if_pos ha]
 | cons c t ih =>
  intro k n a hp hk hd ha
  obtain ⟨k, rfl⟩ : ∃ m, k = m + 1 := ⟨k - 1, by simp at hk; omega⟩
  have hlt := hp.lt
  have hb := hp.bt
  have hw : wrap64 ((n : Int) + 1) = ((n + 1 : Nat) : Int) := by unfold wrap64; omega
  obtain ⟨h1, h2, h3⟩ := digL_cons hd
  have hg := valF_ge t (10 * a + (c.toNat - 48))
  have hc : wrap64 (wrap64 ((c.toNat : Nat) : Int) - 48) = ((c.toNat - 48 : Nat) : Int) := by
   rw [w64 ((c.toNat : Nat) : Int) (by omega) (by omega), w64 _ (by omega) (by omega)]
   omega
  simp only [oakumref04_Below.l0]
  rw [valF_cons, if_pos (by omega), if_pos (by omega), hb, hc, hw]
  have hk2 : t.length < k := by simpa using hk
  have hp2 := hp.next
  clear hb hc hw hlt hk hp
  have step : 10 * a + (c.toNat - 48) ≤ B → oakumref04_Below.l0 k s (wrap64 (wrap64 (10 * -(a : Int)) - ((c.toNat - 48 : Nat) : Int))) ((n + 1 : Nat) : Int) =
    some (if valF (10 * a + (c.toNat - 48)) t ≤ B then (-((valF (10 * a + (c.toNat - 48)) t : Nat) : Int), true) else (0, false)) := by
   intro hle
   rw [step_w a (c.toNat - 48) (Nat.le_trans hle (Nat.le_of_eq hB))]
   exact ih k (n + 1) _ hp2 hk2 h3 hle
  by_cases c1 : 922337203685477580 < a
  ·rw [if_pos (by omega), if_neg (by omega)]
  ·rw [if_neg (by omega)]
   by_cases c2 : a = 922337203685477580
   ·rw [if_pos (by omega)]
    by_cases c3 : 8 < c.toNat - 48
    ·rw [if_pos (by omega), if_neg (by omega)]
    ·rw [if_neg (by omega)]
     exact step (by omega)
   ·rw [if_neg (by omega)]
    exact step (by omega)
theorem head_of {s : ByteArray} {c : UInt8} {t : List UInt8} (h : s.data.toList = c :: t) : bt s 0 = (c.toNat : Int) := by
 have hp : Pos s 0 (c :: t) := ⟨by rw [List.drop_zero]; exact h, Nat.zero_le _⟩
 exact hp.bt
theorem below_f (s : ByteArray) (hs : s.size ≤ 1099511627776) (k : Nat) (hk : s.size + 1 < k) :
  oakumref04_Below.f k s = some (if natOK s.data.toList = true then (-((valF 0 s.data.toList : Nat) : Int), true) else (0, false)) := by
 unfold oakumref04_Below.f
 rw [only_f s hs k (by omega), Option.bind_some]
 obtain ⟨k, rfl⟩ : ∃ m, k = m + 1 := ⟨k - 1, by omega⟩
 unfold natOK
 cases hl : s.data.toList with
 | nil =>
  simp [digL, oakumref04_Below.j0]
 | cons c t =>
  have hp : Pos s 0 (c :: t) := ⟨by rw [List.drop_zero]; exact hl, Nat.zero_le _⟩
  have hlen := hp.len
  have hb := head_of hl
  by_cases hd : digL (c :: t) = true
  ·rw [hd]
   simp only [Bool.true_and, List.isEmpty_cons, Bool.not_false, if_true]
   rw [if_pos (by simp at hlen; omega), hb]
   by_cases c0 : c = 48
   ·subst c0
    rw [if_pos (by decide)]
    simp only [List.head?_cons, beq_self_eq_true, Bool.true_and]
    by_cases ht : 1 < (48 :: t : List UInt8).length
    ·rw [decide_eq_true (show (s.size : Int) > 1 by simp at hlen ht; omega), decide_eq_true ht]
     simp [oakumref04_Below.j0]
    ·rw [decide_eq_false (show ¬ (s.size : Int) > 1 by simp only [List.length_cons] at hlen ht ⊢; omega), decide_eq_false ht]
     simp only [oakumref04_Below.j0]
     have := below_l0 s hs _ rfl _ k 0 0 hp (by simp only [List.length_cons] at hlen ⊢; omega) hd (Nat.zero_le _)
     rw [show (-((0 : Nat) : Int)) = 0 from rfl, show ((0 : Nat) : Int) = 0 from rfl] at this
     simp only [Bool.false_eq_true, if_false, this]
     simp
   ·have hc0 : ¬ (c.toNat : Int) = 48 := by
     intro h
     apply c0
     have : c.toNat = (48 : UInt8).toNat := by
      rw [show (48 : UInt8).toNat = 48 from rfl]; omega
     exact UInt8.toNat_inj.1 this
    rw [if_neg hc0]
    simp only [oakumref04_Below.j0]
    have := below_l0 s hs _ rfl _ k 0 0 hp (by simp only [List.length_cons] at hlen ⊢; omega) hd (Nat.zero_le _)
    rw [show (-((0 : Nat) : Int)) = 0 from rfl, show ((0 : Nat) : Int) = 0 from rfl] at this
    simp only [Bool.false_eq_true, if_false, this]
    simp [c0]
  ·rw [Bool.not_eq_true] at hd
   rw [hd]
   simp [oakumref04_Below.j0]
def numOK (l : List UInt8) : Bool := natOK l && decide (valF 0 l < 9223372036854775808)
theorem number_ref (s : ByteArray) (hs : s.size ≤ 1099511627776) (k : Nat) (hk : s.size + 1 < k) : ∃ v, oakumref04_Number.f k s = some (v, numOK s.data.toList) := by
 unfold oakumref04_Number.f numOK
 rw [below_f s hs k hk, Option.bind_some]
 cases h : natOK s.data.toList with
 | false => exact ⟨0, by simp⟩
 | true =>
  simp only [if_true]
  have hv : valF 0 s.data.toList ≤ 9223372036854775808 := by
   unfold natOK at h
   simp only [Bool.and_eq_true, decide_eq_true_eq] at h
   exact h.2
  by_cases h2 : valF 0 s.data.toList < 9223372036854775808
  ·rw [if_neg (by omega), decide_eq_true h2]
   exact ⟨_, rfl⟩
  ·rw [if_pos (by omega), decide_eq_false h2]
   exact ⟨_, rfl⟩
theorem number_prog (s : ByteArray) (hs : s.size ≤ 1099511627776) : ∃ v c, dec_Number.f s = some (v, c) ∧ (c == 0) = numOK s.data.toList := by
 unfold dec_Number.f dec_natural.f numOK
 rw [if_pos (by omega), Option.bind_some]
 obtain ⟨e1, e2⟩ := natL_is s.data.toList
 rw [e1]
 cases h : natOK s.data.toList with
 | false => exact ⟨0, 15, by simp, by simp⟩
 | true =>
  rw [e2 h]
  simp only [if_true]
  by_cases h2 : valF 0 s.data.toList < 9223372036854775808
  ·rw [if_neg (by omega), decide_eq_true h2]
   exact ⟨_, _, rfl, by simp⟩
  ·rw [if_pos (by
    have hv : valF 0 s.data.toList ≤ 9223372036854775808 := by
     unfold natOK at h
     simp only [Bool.and_eq_true, decide_eq_true_eq] at h
     exact h.2
    omega), decide_eq_false h2]
   exact ⟨_, _, rfl, by simp⟩
end Go.Proofs.YtejdmofljifkbaaGreatDoor.P
namespace Go.Proofs.YtejdmofljifkbaaGreatDoor.P
open Go.RowKit Go.Proofs.YtejdmofljifkbaaGreatDoorW.PrintWords Go.Proofs.YtejdmofljifkbaaGreatDoorW.PrintLast Go.Proofs.YtejdmofljifkbaaGreatDoorW.PrintMore
def dotAt : List UInt8 → Nat
 | [] => 0
 | c :: t => if c = 46 then 0 else dotAt t + 1
theorem dotAt_le : ∀ l : List UInt8, dotAt l ≤ l.length
 | [] => Nat.le_refl _
 | c :: t => by
  have := dotAt_le t
  unfold dotAt
  split
  ·exact Nat.zero_le _
  ·simp; omega
theorem index_dot : ∀ l : List UInt8, Lib.index l [46] = if dotAt l < l.length then ((dotAt l : Nat) : Int) else -1
 | [] => by simp [Lib.index, dotAt]
 | c :: t => by
  have ih := index_dot t
  unfold Lib.index dotAt
  by_cases hc : c = 46
  ·subst hc
   simp
  ·have : ([46] : List UInt8).isPrefixOf (c :: t) = false := by
    simp [List.isPrefixOf]
    exact fun h => hc h.symm
   rw [this]
   simp only [Bool.false_eq_true, if_false, hc, ih]
   by_cases h : dotAt t < t.length
   ·rw [if_pos h]
    have : ¬ ((dotAt t : Nat) : Int) = -1 := by omega
    simp [this, h]
   ·rw [if_neg h]
    simp [h]
theorem cut_dot (l : List UInt8) : Lib.cut l [46] = if dotAt l < l.length then (l.take (dotAt l), l.drop (dotAt l + 1), true) else (l, [], false) := by
 unfold Lib.cut
 rw [index_dot]
 by_cases h : dotAt l < l.length
 ·rw [if_pos h, if_pos h, if_pos (by omega)]
  rfl
 ·rw [if_neg h, if_neg h, if_neg (by decide)]
def nano9 (more : List UInt8) : List UInt8 := more ++ List.replicate (9 - more.length) 48
def tailOK (minus : Bool) (v n : Nat) : Bool := if minus then decide (v < 9223372036854775808) || decide (n = 0) else decide (v < 9223372036854775808)
def timeB (minus : Bool) (b : List UInt8) : Bool :=
 if dotAt b < b.length then
  ((digL (b.drop (dotAt b + 1)) && !(b.drop (dotAt b + 1)).isEmpty) && decide ((b.drop (dotAt b + 1)).length ≤ 9)) && (natOK (b.take (dotAt b)) && tailOK minus (valF 0 (b.take (dotAt b))) (valF 0 (nano9 (b.drop (dotAt b + 1)))))
 else natOK b && tailOK minus (valF 0 b) 0
def timeOK : List UInt8 → Bool
 | [] => timeB false []
 | c :: t => if c = 45 then timeB true t else timeB false (c :: t)
theorem timeOK_hit (t : List UInt8) : timeOK (45 :: t) = timeB true t := by simp [timeOK]
theorem timeOK_miss {c : UInt8} (t : List UInt8) (h : ¬ c = 45) : timeOK (c :: t) = timeB false (c :: t) := by simp [timeOK, h]
theorem dot_hit (t : List UInt8) : dotAt (46 :: t) = 0 := if_pos rfl
theorem dot_miss {c : UInt8} (t : List UInt8) (h : ¬ c = 46) : dotAt (c :: t) = dotAt t + 1 := if_neg h
theorem valF_app : ∀ (u : List UInt8) (a : Nat) (c : UInt8), valF a (u ++ [c]) = 10 * valF a u + (c.toNat - 48)
 | [], a, c => by rw [List.nil_append, valF_cons, valF_nil, valF_nil]
 | d :: u, a, c => by rw [List.cons_append, valF_cons, valF_cons, valF_app u]
theorem valF_lt : ∀ (u : List UInt8) (a B : Nat), digL u = true → a < B → valF a u < B * 10 ^ u.length
 | [], a, B, _, h => by rw [valF_nil]; simpa using h
 | d :: u, a, B, hd, h => by
  obtain ⟨h1, h2, h3⟩ := digL_cons hd
  have := valF_lt u (10 * a + (d.toNat - 48)) (10 * B) h3 (by omega)
  rw [valF_cons, List.length_cons, Nat.pow_succ, Nat.mul_comm (10 ^ u.length) 10, ← Nat.mul_assoc, Nat.mul_comm B 10]
  exact this
theorem nano9_len (more : List UInt8) (h : more.length ≤ 9) : (nano9 more).length = 9 := by simp [nano9]; omega
theorem digL_app (u v : List UInt8) : digL (u ++ v) = (digL u && digL v) := by simp [digL]
theorem digL_rep (n : Nat) : digL (List.replicate n 48) = true := by
 unfold digL
 rw [List.all_eq_true]
 intro c hc
 rw [List.eq_of_mem_replicate hc]
 rfl
theorem digL_take {u : List UInt8} (h : digL u = true) (n : Nat) : digL (u.take n) = true := by
 have := digL_app (u.take n) (u.drop n)
 rw [List.take_append_drop, h] at this
 simp at this
 exact this.1
theorem valF_nine {u : List UInt8} (hd : digL u = true) (hl : u.length ≤ 9) : valF 0 u < 1000000000 := by
 have h := valF_lt u 0 1 hd (by omega)
 have : (10 : Nat) ^ u.length ≤ 10 ^ 9 := Nat.pow_le_pow_right (by omega) hl
 omega
def endB (x4 : Bool) (x7 : Int) (x8 : Bool) (x9 : Int) : Bool := x8 && !(decide (x7 = -9223372036854775808) && (!x4 || decide (x9 > 0)))
theorem ref_end (k : Nat) (x4 : Bool) (x7 : Int) (x8 : Bool) (x9 : Int) : ∃ v n, oakumref04_Time.j5 (k + 2) x4 x7 x8 x9 = some (v, n, endB x4 x7 x8 x9) := by
 simp only [oakumref04_Time.j5, oakumref04_Time.j6]
 unfold endB
 cases x8 <;> cases x4
 ·exact ⟨0, 0, by simp⟩
 ·exact ⟨0, 0, by simp⟩
 ·by_cases h : x7 = -9223372036854775808
  ·exact ⟨0, 0, by simp [h]⟩
  ·exact ⟨_, _, by simp [h]; exact ⟨rfl, rfl⟩⟩
 ·by_cases h : x7 = -9223372036854775808
  ·by_cases h9 : x9 > 0
   ·exact ⟨0, 0, by simp [h, h9]⟩
   ·by_cases h0 : x9 = 0
    ·subst h0
     exact ⟨_, _, by simp [h]; exact ⟨rfl, rfl⟩⟩
    ·exact ⟨_, _, by simp [h, h9, h0]; exact ⟨rfl, rfl⟩⟩
  ·by_cases h0 : x9 = 0
   ·subst h0
    exact ⟨_, _, by simp [h]; exact ⟨rfl, rfl⟩⟩
   ·exact ⟨_, _, by simp [h, h0]; exact ⟨rfl, rfl⟩⟩
theorem nine_run (s : ByteArray) (x4 : Bool) (x7 : Int) (x8 : Bool) (hd : digL s.data.toList = true) (hl : s.size ≤ 9) (z : List UInt8) (hz : nano9 s.data.toList = z) :
  ∀ (j i k : Nat), i + j = 9 → oakumref04_Time.l1 (k + j + 1) x4 x7 x8 ((valF 0 (z.take i) : Nat) : Int) s (i : Int) = oakumref04_Time.j5 k x4 x7 x8 ((valF 0 z : Nat) : Int) := by
 have hzl : z.length = 9 := by rw [← hz]; exact nano9_len _ (by rw [data_length]; exact hl)
 have hzd : digL z = true := by rw [← hz]; unfold nano9; rw [digL_app, hd, digL_rep]; rfl
 intro j
 induction j with
 | zero =>
  intro i k hi
  simp only [oakumref04_Time.l1]
  rw [if_neg (by omega), List.take_of_length_le (by omega)]
 | succ j ih =>
  intro i k hi
  have hb : valF 0 (z.take i) < 1000000000 := valF_nine (digL_take hzd i) (by rw [List.length_take]; omega)
  have hiz : i < z.length := by omega
  have hc : z.take i ++ [z[i]] = z.take (i + 1) := by simp
  have hstep := valF_app (z.take i) 0 z[i]
  rw [hc] at hstep
  have hdz : 48 ≤ (z[i]).toNat ∧ (z[i]).toNat ≤ 57 := by
   have := List.all_eq_true.1 (show z.all _ = true from hzd) z[i] (List.getElem_mem hiz)
   simpa using this
  have ih' := ih (i + 1) k (by omega)
  rw [show k + (j + 1) + 1 = (k + j + 1) + 1 by omega]
  simp only [oakumref04_Time.l1]
  rw [if_pos (by omega)]
  have hw : wrap64 ((i : Int) + 1) = ((i + 1 : Nat) : Int) := by rw [show (i : Int) + 1 = ((i + 1 : Nat) : Int) by omega, w64n _ (by omega)]
  by_cases his : i < s.size
  ·have hp : Pos s i (s.data.toList.drop i) := ⟨rfl, by omega⟩
   have hil : i < s.data.toList.length := by rw [data_length]; exact his
   rw [List.drop_eq_getElem_cons hil] at hp
   have hbt := hp.bt
   have hzi : z[i] = s.data.toList[i] := by
    have : z[i]? = s.data.toList[i]? := by rw [← hz]; unfold nano9; rw [List.getElem?_append_left hil]
    rw [List.getElem?_eq_getElem hiz, List.getElem?_eq_getElem hil] at this
    exact Option.some.inj this
   rw [if_pos (by omega), if_pos (by omega), hbt, hw, ← hzi]
   have e : wrap64 (wrap64 (wrap64 (10 * ((valF 0 (z.take i) : Nat) : Int)) + wrap64 ((z[i].toNat : Nat) : Int)) - 48) = ((valF 0 (z.take (i + 1)) : Nat) : Int) := by
    rw [hstep]
    clear hbt hw hc ih ih' hp hzi hstep
    generalize valF 0 (z.take i) = v at hb ⊢
    generalize (z[i]).toNat = d at hdz ⊢
    rw [w64 (10 * (v : Int)) (by omega) (by omega), w64 (d : Int) (by omega) (by omega), w64 (10 * (v : Int) + d) (by omega) (by omega), w64 _ (by omega) (by omega)]
    omega
   rw [e]
   exact ih'
  ·rw [if_neg (by omega), hw]
   have hzi : (z[i]).toNat = 48 := by
    have : z[i]? = some 48 := by
     rw [← hz]; unfold nano9
     rw [List.getElem?_append_right (by rw [data_length]; omega), List.getElem?_replicate, if_pos (by rw [data_length]; omega)]
    rw [List.getElem?_eq_getElem hiz] at this
    rw [Option.some.inj this]; rfl
   have e : wrap64 (10 * ((valF 0 (z.take i) : Nat) : Int)) = ((valF 0 (z.take (i + 1)) : Nat) : Int) := by
    rw [hstep, hzi, w64 _ (by omega) (by omega)]
    omega
   rw [e]
   exact ih'
theorem dot_run (s : ByteArray) (hs : s.size ≤ 2097152) (x4 : Bool) : ∀ (n K : Nat), n ≤ s.size →
  oakumref04_Time.l0 (K + n) s x4 ((n + dotAt (s.data.toList.drop n) : Nat) : Int) ((n : Int) - 1) = oakumref04_Time.l0 K s x4 ((dotAt s.data.toList : Nat) : Int) (-1)
 | 0, K, _ => by simp
 | n + 1, K, h => by
  have ih := dot_run s hs x4 n K (by omega)
  have hp : Pos s n (s.data.toList.drop n) := ⟨rfl, by omega⟩
  have hil : n < s.data.toList.length := by rw [data_length]; omega
  have hd := List.drop_eq_getElem_cons hil
  rw [hd] at hp ih
  have hbt := hp.bt
  rw [show K + (n + 1) = (K + n) + 1 by omega]
  simp only [oakumref04_Time.l0]
  rw [show ((n + 1 : Nat) : Int) - 1 = (n : Int) by omega, if_pos (by omega), if_pos (by omega), if_pos (by omega), hbt, w64 ((n : Int) - 1) (by omega) (by omega)]
  clear hbt hp
  by_cases hc : s.data.toList[n] = 46
  ·rw [if_pos (by rw [hc]; rfl)]
   rw [hc, dot_hit, Nat.add_zero] at ih
   exact ih
  ·rw [if_neg (by
    intro h
    apply hc
    apply UInt8.toNat_inj.1
    rw [show (46 : UInt8).toNat = 46 from rfl]
    omega)]
   rw [dot_miss _ hc] at ih
   rw [show n + 1 + dotAt (s.data.toList.drop (n + 1)) = n + (dotAt (s.data.toList.drop (n + 1)) + 1) by omega]
   exact ih
theorem end_tail (x4 : Bool) (l : List UInt8) (n : Nat) (x8 : Bool) (hx : natOK l = x8) :
  endB x4 (if x8 = true then (-((valF 0 l : Nat) : Int), true) else (0, false)).1 (if x8 = true then (-((valF 0 l : Nat) : Int), true) else (0, false)).2 (n : Int) = (natOK l && tailOK x4 (valF 0 l) n) := by
 unfold endB tailOK
 rw [hx]
 cases x8 with
 | false => rfl
 | true =>
  have hv : valF 0 l ≤ 9223372036854775808 := by
   unfold natOK at hx
   simp only [Bool.and_eq_true, decide_eq_true_eq] at hx
   exact hx.2
  simp only [if_true, Bool.true_and]
  generalize valF 0 l = v at hv
  by_cases h : v < 9223372036854775808
  ·rw [decide_eq_false (show ¬ -(v : Int) = -9223372036854775808 by omega), decide_eq_true h]
   cases x4 <;> rfl
  ·rw [decide_eq_true (show -(v : Int) = -9223372036854775808 by omega), decide_eq_false h]
   cases x4
   ·rfl
   ·by_cases hn : n = 0
    ·subst hn; rfl
    ·rw [decide_eq_true (show (n : Int) > 0 by omega), decide_eq_false hn]; rfl
theorem ref_body (b : ByteArray) (hs : b.size ≤ 2097152) (x4 : Bool) (k : Nat) (hk : 2 * b.size + 40 ≤ k) : ∃ v n, oakumref04_Time.j1 k b x4 = some (v, n, timeB x4 b.data.toList) := by
 obtain ⟨K, rfl⟩ : ∃ K, k = (K + 1 + b.size) + 1 := ⟨k - b.size - 2, by omega⟩
 simp only [oakumref04_Time.j1]
 have hr := dot_run b hs x4 b.size (K + 1) (Nat.le_refl _)
 rw [List.drop_eq_nil_of_le (by rw [data_length]; exact Nat.le_refl _), show b.size + dotAt [] = b.size from rfl] at hr
 rw [w64 ((b.size : Int) - 1) (by omega) (by omega), hr]
 clear hr
 have hp := dotAt_le b.data.toList
 rw [data_length] at hp
 simp only [oakumref04_Time.l0]
 rw [if_neg (by omega), if_pos (by omega), if_pos (by omega), Int.toNat_natCast]
 have htake : (b.extract 0 (dotAt b.data.toList)).data.toList = b.data.toList.take (dotAt b.data.toList) := by rw [ext_list, List.drop_zero]
 have htl : (b.extract 0 (dotAt b.data.toList)).size ≤ dotAt b.data.toList := by rw [← data_length, htake, List.length_take]; exact Nat.min_le_left _ _
 rw [below_f _ (by omega) K (by omega), htake, Option.bind_some]
 unfold timeB
 rw [data_length]
 by_cases hlt : dotAt b.data.toList < b.size
 ·rw [if_pos (show ((dotAt b.data.toList : Nat) : Int) < (b.size : Int) by omega), if_pos hlt]
  have hw : wrap64 (((dotAt b.data.toList : Nat) : Int) + 1) = ((dotAt b.data.toList + 1 : Nat) : Int) := by
   rw [show ((dotAt b.data.toList : Nat) : Int) + 1 = ((dotAt b.data.toList + 1 : Nat) : Int) by omega, w64n _ (by omega)]
  rw [hw, if_pos (by omega), if_pos (by omega), Int.toNat_natCast]
  have hm : (b.extract (dotAt b.data.toList + 1) b.size).data.toList = b.data.toList.drop (dotAt b.data.toList + 1) := by
   rw [ext_list, ← data_length, List.take_length]
  have hms : (b.extract (dotAt b.data.toList + 1) b.size).size = (b.data.toList.drop (dotAt b.data.toList + 1)).length := by rw [← data_length, hm]
  generalize hM : b.extract (dotAt b.data.toList + 1) b.size = M at hm hms ⊢
  rw [← hm] at hms ⊢
  have hMl : M.size ≤ b.size := by rw [← data_length, hm, List.length_drop, data_length]; omega
  rw [only_f M (by omega) K (by omega), Option.bind_some]
  rw [data_length]
  cases ho : (digL M.data.toList && !M.data.toList.isEmpty) with
  | false =>
   simp only [Bool.false_eq_true, if_false]
   obtain ⟨K, rfl⟩ : ∃ m, K = m + 1 := ⟨K - 1, by omega⟩
   simp only [oakumref04_Time.j3, if_true]
   exact ⟨0, 0, rfl⟩
  | true =>
   simp only [if_true]
   by_cases h9 : M.size ≤ 9
   ·rw [decide_eq_false (show ¬ (M.size : Int) > 9 by omega), decide_eq_true h9]
    obtain ⟨K, rfl⟩ : ∃ m, K = (m + 2 + 9 + 1) + 1 := ⟨K - 13, by omega⟩
    simp only [oakumref04_Time.j3, Bool.false_eq_true, if_false]
    have hd : digL M.data.toList = true := by
     rw [Bool.and_eq_true] at ho; exact ho.1
    have hn := fun x7 x8 => nine_run M x4 x7 x8 hd h9 _ rfl 9 0 (K + 2) rfl
    simp only [List.take_zero, valF_nil] at hn
    rw [show ((0 : Nat) : Int) = 0 from rfl] at hn
    rw [hn]
    obtain ⟨v, n, e⟩ := ref_end K x4 (if natOK (b.data.toList.take (dotAt b.data.toList)) = true then (-((valF 0 (b.data.toList.take (dotAt b.data.toList)) : Nat) : Int), true) else (0, false)).1 (if natOK (b.data.toList.take (dotAt b.data.toList)) = true then (-((valF 0 (b.data.toList.take (dotAt b.data.toList)) : Nat) : Int), true) else (0, false)).2 ((valF 0 (nano9 M.data.toList) : Nat) : Int)
    rw [end_tail x4 _ _ _ rfl] at e
    exact ⟨v, n, e⟩
   ·rw [decide_eq_true (show (M.size : Int) > 9 by omega), decide_eq_false h9]
    obtain ⟨K, rfl⟩ : ∃ m, K = m + 1 := ⟨K - 1, by omega⟩
    simp only [oakumref04_Time.j3, if_true]
    exact ⟨0, 0, rfl⟩
 ·rw [if_neg (show ¬ ((dotAt b.data.toList : Nat) : Int) < (b.size : Int) by omega), if_neg hlt]
  obtain ⟨K, rfl⟩ : ∃ m, K = m + 2 := ⟨K - 2, by omega⟩
  have hfull : b.data.toList.take (dotAt b.data.toList) = b.data.toList := List.take_of_length_le (by rw [data_length]; omega)
  rw [hfull]
  obtain ⟨v, n, e⟩ := ref_end K x4 (if natOK b.data.toList = true then (-((valF 0 b.data.toList : Nat) : Int), true) else (0, false)).1 (if natOK b.data.toList = true then (-((valF 0 b.data.toList : Nat) : Int), true) else (0, false)).2 ((0 : Nat) : Int)
  rw [end_tail x4 _ _ _ rfl] at e
  exact ⟨v, n, e⟩
theorem time_ref (s : ByteArray) (hs : s.size ≤ 2097152) (k : Nat) (hk : 2 * s.size + 50 ≤ k) : ∃ v n, oakumref04_Time.f k s = some (v, n, timeOK s.data.toList) := by
 unfold oakumref04_Time.f
 obtain ⟨k, rfl⟩ : ∃ m, k = m + 1 := ⟨k - 1, by omega⟩
 cases hl : s.data.toList with
 | nil =>
  have h0 : s.size = 0 := by rw [← data_length, hl]; rfl
  rw [if_neg (by omega)]
  simp only [oakumref04_Time.j0, Bool.false_eq_true, if_false]
  have := ref_body s hs false k (by omega)
  rw [hl] at this
  exact this
 | cons c t =>
  have hlen : s.size = t.length + 1 := by rw [← data_length, hl]; rfl
  rw [if_pos (by omega), if_pos (by omega), head_of hl]
  by_cases hc : c = 45
  ·subst hc
   rw [timeOK_hit, show ((((45 : UInt8).toNat : Nat) : Int) == 45) = true from rfl]
   simp only [oakumref04_Time.j0, if_true]
   rw [if_pos (by omega)]
   have ht : (s.extract 1 s.size).data.toList = t := by rw [ext_list, ← data_length, List.take_length, hl]; rfl
   have hts : (s.extract 1 s.size).size ≤ s.size := by rw [← data_length, ht]; omega
   have := ref_body (s.extract 1 s.size) (by omega) true k (by omega)
   rw [ht] at this
   exact this
  ·have hcn : (((c.toNat : Nat) : Int) == 45) = false := by
    rw [beq_eq_false_iff_ne]
    intro h
    apply hc
    apply UInt8.toNat_inj.1
    rw [show (45 : UInt8).toNat = 45 from rfl]
    omega
   rw [timeOK_miss _ hc, hcn, ← hl]
   simp only [oakumref04_Time.j0, Bool.false_eq_true, if_false]
   exact ref_body s hs false k (by omega)
end Go.Proofs.YtejdmofljifkbaaGreatDoor.P
namespace Go.Proofs.YtejdmofljifkbaaGreatDoor.P
open Go.RowKit Go.Proofs.YtejdmofljifkbaaGreatDoorW.PrintWords Go.Proofs.YtejdmofljifkbaaGreatDoorW.PrintLast Go.Proofs.YtejdmofljifkbaaGreatDoorW.PrintMore
theorem prog_end (k : Nat) (m : Bool) (v n : Nat) (hv : v ≤ 9223372036854775808) : ∃ a b c, dec_Time.j1 (k + 2) m (v : Int) (n : Int) = some (a, b, c) ∧ (c == 0) = tailOK m v n := by
 simp only [dec_Time.j1, dec_Time.j2]
 unfold tailOK
 cases m with
 | false =>
  simp only [Bool.false_eq_true, if_false]
  by_cases h : v < 9223372036854775808
  ·rw [decide_eq_false (show ¬ (v : Int) / 9223372036854775808 > 0 by omega), decide_eq_true h]
   exact ⟨_, _, _, rfl, rfl⟩
  ·rw [decide_eq_true (show (v : Int) / 9223372036854775808 > 0 by omega), decide_eq_false h]
   exact ⟨_, _, _, rfl, rfl⟩
 | true =>
  simp only [if_true, Bool.false_eq_true, if_false]
  by_cases hn : n = 0
  ·subst hn
   rw [if_pos (show ((0 : Nat) : Int) = 0 from rfl), decide_eq_true (rfl : (0 : Nat) = 0), Bool.or_true]
   exact ⟨_, _, _, rfl, rfl⟩
  ·rw [if_neg (show ¬ (n : Int) = 0 by omega), decide_eq_false hn, Bool.or_false]
   by_cases h : v < 9223372036854775808
   ·rw [if_neg (show ¬ (v : Int) / 9223372036854775808 > 0 by omega), decide_eq_true h]
    exact ⟨_, _, _, rfl, rfl⟩
   ·rw [if_pos (show (v : Int) / 9223372036854775808 > 0 by omega), decide_eq_false h]
    exact ⟨_, _, _, rfl, rfl⟩
theorem rep_one : ∀ n : Nat, Lib.repeatL [48] n = List.replicate n 48
 | 0 => rfl
 | n + 1 => by
  show [48] ++ Lib.repeatL [48] n = _
  rw [rep_one n, List.replicate_succ]
  rfl
theorem parse_nine (l : List UInt8) (hd : digL l = true) (hl : l.length = 9) : Lib.parseIntB 64 l = .ok ((valF 0 l : Nat) : Int) := by
 have hv := valF_nine hd (Nat.le_of_eq hl)
 cases l with
 | nil => cases hl
 | cons c t =>
  obtain ⟨h1, h2, h3⟩ := digL_cons hd
  rw [Lib.parseIntB_plain 64 c t (by omega) (by omega)]
  have hp : Lib.parseUintB 64 (c :: t) = .ok (valF 0 (c :: t)) := by
   unfold Lib.parseUintB
   rw [if_neg (by simp)]
   have := parse_val _ rfl (c :: t) 0 hd (Nat.zero_le _)
   rw [if_pos (by omega)] at this
   exact this
  rw [hp]
  unfold Lib.signlessC
  simp only
  rw [if_neg (by
   have : (2 : Nat) ^ (64 - 1) = 9223372036854775808 := by decide
   omega)]
theorem digits_any (s : ByteArray) (hs : s.size ≤ 2097152) (k : Nat) (hk : s.size < k) : dec_digits.f k s = some (digL s.data.toList && !s.data.toList.isEmpty) :=
 digits_l0 s (by omega) k 0 _ (Pos.zero s) (by rw [data_length]; exact hk)
def progBody (k : Nat) (m : Bool) (b : ByteArray) : Option (Int × Int × Int) :=
 (strings_Cut.f b (⟨#[46]⟩ : ByteArray)).bind fun bt128 => ((dec_natural.f bt128.1).bind fun bt131 => (if bt131.2 = true then (if bt128.2.2 = true then ((dec_digits.f k bt128.2.1).bind fun t133 => (if t133 = true then (dec_Time.j0 k m bt128.2.1 bt128.2.2 bt131.1 (decide ((bt128.2.1.size : Int) > 9))) else (dec_Time.j0 k m bt128.2.1 bt128.2.2 bt131.1 true))) else (dec_Time.j0 k m bt128.2.1 bt128.2.2 bt131.1 false)) else (dec_Time.j0 k m bt128.2.1 bt128.2.2 bt131.1 true)))
theorem prog_body (b : ByteArray) (hs : b.size ≤ 2097152) (m : Bool) (k : Nat) (hk : b.size + 10 ≤ k) : ∃ v n c, progBody k m b = some (v, n, c) ∧ (c == 0) = timeB m b.data.toList := by
 have hbad : ∀ x5 x6 x7, ∃ v n c, dec_Time.j0 k m x5 x6 x7 true = some (v, n, c) ∧ (c == 0) = false := by
  intro x5 x6 x7
  obtain ⟨k, rfl⟩ : ∃ j, k = j + 1 := ⟨k - 1, by omega⟩
  exact ⟨0, 0, 15, by simp [dec_Time.j0], rfl⟩
 unfold progBody strings_Cut.f timeB
 rw [if_pos (by omega), Option.bind_some, show (⟨#[46]⟩ : ByteArray).data.toList = [46] from rfl, cut_dot, data_length]
 by_cases hlt : dotAt b.data.toList < b.size
 ·rw [if_pos hlt, if_pos hlt]
  simp only
  have hx : (tx (b.data.toList.take (dotAt b.data.toList))).size ≤ b.size := by rw [tx_size, List.length_take, data_length]; omega
  have hm : (tx (b.data.toList.drop (dotAt b.data.toList + 1))).size ≤ b.size := by rw [tx_size, List.length_drop, data_length]; omega
  unfold dec_natural.f
  rw [if_pos (by omega), Option.bind_some, tx_data]
  obtain ⟨n1, n2⟩ := natL_is (b.data.toList.take (dotAt b.data.toList))
  rw [n1]
  rw [digits_any _ (by omega) k (by omega), tx_data]
  generalize hX : b.data.toList.take (dotAt b.data.toList) = X at n1 n2 ⊢
  generalize hM : b.data.toList.drop (dotAt b.data.toList + 1) = M at hm ⊢
  cases hok : natOK X with
  | false =>
   simp only [Bool.false_eq_true, if_false, Bool.false_and, Bool.and_false]
   exact hbad _ _ _
  | true =>
   simp only [if_true, Bool.true_and, Option.bind_some]
   rw [n2 hok]
   cases ho : (digL M && !M.isEmpty) with
   | false =>
    simp only [Bool.false_eq_true, if_false, Bool.false_and]
    exact hbad _ _ _
   | true =>
    simp only [if_true, Bool.true_and]
    rw [tx_size]
    by_cases h9 : M.length ≤ 9
    ·rw [decide_eq_false (show ¬ (M.length : Int) > 9 by omega), decide_eq_true h9, Bool.true_and]
     obtain ⟨k, rfl⟩ : ∃ j, k = j + 2 + 1 := ⟨k - 3, by omega⟩
     have hd : digL M = true := by rw [Bool.and_eq_true] at ho; exact ho.1
     simp only [dec_Time.j0, Bool.false_eq_true, if_false, if_true]
     rw [tx_size, w64 _ (by omega) (by omega)]
     have hr : strings_Repeat.f (⟨#[48]⟩ : ByteArray) (9 - (M.length : Int)) = some (tx (List.replicate (9 - M.length) 48)) := by
      unfold strings_Repeat.f
      rw [if_pos ⟨by omega, by omega, by rw [show (⟨#[48]⟩ : ByteArray).size = 1 from rfl]; omega⟩, show (⟨#[48]⟩ : ByteArray).data.toList = [48] from rfl, rep_one, show (9 - (M.length : Int)).toNat = 9 - M.length by omega]
     rw [hr, Option.bind_some, tx_size, List.length_replicate, if_pos (by omega), tx_app]
     have hp : strconv_ParseInt.f (tx (M ++ List.replicate (9 - M.length) 48)) 10 64 = some (((valF 0 (nano9 M) : Nat) : Int), none) := by
      unfold strconv_ParseInt.f
      have hl9 : (M ++ List.replicate (9 - M.length) 48).length = 9 := nano9_len M h9
      rw [if_pos ⟨rfl, rfl, by rw [tx_size, hl9]; decide⟩, tx_data, parse_nine _ (by rw [digL_app, hd, digL_rep]; rfl) hl9]
      rfl
     rw [hp, Option.bind_some]
     have hv : valF 0 X ≤ 9223372036854775808 := by
      unfold natOK at hok
      simp only [Bool.and_eq_true, decide_eq_true_eq] at hok
      exact hok.2
     exact prog_end k m _ _ hv
    ·rw [decide_eq_true (show (M.length : Int) > 9 by omega), decide_eq_false h9, Bool.false_and]
     exact hbad _ _ _
 ·rw [if_neg hlt, if_neg hlt]
  simp only
  unfold dec_natural.f
  rw [if_pos (by rw [tx_size, data_length]; omega), Option.bind_some, tx_data]
  obtain ⟨n1, n2⟩ := natL_is b.data.toList
  rw [n1]
  cases hok : natOK b.data.toList with
  | false =>
   simp only [Bool.false_eq_true, if_false, Bool.false_and]
   exact hbad _ _ _
  | true =>
   simp only [if_true, Bool.true_and, Bool.false_eq_true, if_false]
   rw [n2 hok]
   obtain ⟨k, rfl⟩ : ∃ j, k = j + 2 + 1 := ⟨k - 3, by omega⟩
   simp only [dec_Time.j0, Bool.false_eq_true, if_false]
   have hv : valF 0 b.data.toList ≤ 9223372036854775808 := by
    unfold natOK at hok
    simp only [Bool.and_eq_true, decide_eq_true_eq] at hok
    exact hok.2
   exact prog_end k m _ 0 hv
theorem cut_minus (s : ByteArray) (hs : s.size ≤ 2097152) : strings_CutPrefix.f s (⟨#[45]⟩ : ByteArray) = some (if s.data.toList.head? = some 45 then (s.extract 1 s.size, true) else (s, false)) := by
 unfold strings_CutPrefix.f stringslite_CutPrefix.f stringslite_HasPrefix.f
 rw [show ((⟨#[45]⟩ : ByteArray).size : Int) = 1 from rfl, show (⟨#[45]⟩ : ByteArray).toList = [45] by rw [Lib.toList_data]]
 cases hl : s.data.toList with
 | nil =>
  have h0 : s.size = 0 := by rw [← data_length, hl]; rfl
  rw [if_neg (by omega)]
  simp
 | cons c t =>
  have hlen : s.size = t.length + 1 := by rw [← data_length, hl]; rfl
  rw [if_pos (by omega), if_pos (by omega), if_pos (by omega), Option.bind_some]
  rw [show (1 : Int).toNat = 1 from rfl, Lib.toList_data, ext_list, hl, List.drop_zero]
  rw [show (c :: t).take 1 = [c] from rfl]
  by_cases hc : c = 45
  ·subst hc
   simp [show (1 : Int) ≤ (s.size : Int) by omega]
  ·simp [hc]
theorem time_prog (s : ByteArray) (hs : s.size ≤ 2097152) (k : Nat) (hk : s.size + 10 ≤ k) : ∃ v n c, dec_Time.f k s = some (v, n, c) ∧ (c == 0) = timeOK s.data.toList := by
 unfold dec_Time.f
 rw [cut_minus s hs, Option.bind_some]
 cases hl : s.data.toList with
 | nil =>
  rw [if_neg (by simp)]
  have := prog_body s hs false k hk
  rw [hl] at this
  exact this
 | cons c t =>
  by_cases hc : c = 45
  ·subst hc
   rw [if_pos (by simp), timeOK_hit]
   have ht : (s.extract 1 s.size).data.toList = t := by rw [ext_list, ← data_length, List.take_length, hl]; rfl
   have hlen : s.size = t.length + 1 := by rw [← data_length, hl]; rfl
   have hts : (s.extract 1 s.size).size ≤ s.size := by rw [← data_length, ht]; omega
   have := prog_body (s.extract 1 s.size) (by omega) true k (by omega)
   rw [ht] at this
   exact this
  ·rw [if_neg (by simp [hc]), timeOK_miss _ hc, ← hl]
   exact prog_body s hs false k hk
end Go.Proofs.YtejdmofljifkbaaGreatDoor.P
namespace Go.Proofs.YtejdmofljifkbaaGreatDoor.P
open Go.RowKit Go.Proofs.YtejdmofljifkbaaGreatDoorW.PrintWords Go.Proofs.YtejdmofljifkbaaGreatDoorW.PrintLast Go.Proofs.YtejdmofljifkbaaGreatDoorW.PrintMore
def szP (p : Nat × Nat) : Nat := if p = (65533, 1) then 0 else p.2
def refSz (L b0 b1 b2 b3 : Nat) : Nat :=
 if b0 < 128 then 1
 else if b0 / 32 = 6 then (if 1 < L ∧ b1 / 64 = 2 ∧ 128 ≤ b0 % 32 * 64 + b1 % 64 then 2 else 0)
 else if b0 / 16 = 14 then (if 2 < L ∧ b1 / 64 = 2 ∧ b2 / 64 = 2 ∧ 2048 ≤ b0 % 16 * 4096 + b1 % 64 * 64 + b2 % 64 ∧ (b0 % 16 * 4096 + b1 % 64 * 64 + b2 % 64 < 55296 ∨ 57344 ≤ b0 % 16 * 4096 + b1 % 64 * 64 + b2 % 64) then 3 else 0)
 else if b0 / 8 = 30 then (if 3 < L ∧ b1 / 64 = 2 ∧ b2 / 64 = 2 ∧ b3 / 64 = 2 ∧ 65536 ≤ b0 % 8 * 262144 + b1 % 64 * 4096 + b2 % 64 * 64 + b3 % 64 ∧ b0 % 8 * 262144 + b1 % 64 * 4096 + b2 % 64 * 64 + b3 % 64 ≤ 1114111 then 4 else 0)
 else 0
theorem szP_one {a b : Nat} (h : a ≠ 65533 ∨ b ≠ 1) : szP (a, b) = b := by
 unfold szP
 rw [if_neg]
 intro e
 injection e with e1 e2
 rcases h with h | h
 ·exact h e1
 ·exact h e2
theorem szP_bad : szP (65533, 1) = 0 := rfl
theorem sz_decode (L b0 b1 b2 b3 : Nat) (hb : b0 < 256) : szP (Lib.decodeN L b0 b1 b2 b3) = refSz L b0 b1 b2 b3 := by
 unfold Lib.decodeN refSz
 by_cases c0 : b0 < 128
 ·rw [if_pos c0, if_pos c0, szP_one (.inl (by omega))]
 ·rw [if_neg c0, if_neg c0]
  by_cases c2 : b0 / 32 = 6
  ·rw [if_pos c2]
   by_cases g : 1 < L ∧ b1 / 64 = 2
   ·rw [if_pos ⟨c2, g⟩]
    by_cases v : 128 ≤ b0 % 32 * 64 + b1 % 64
    ·rw [if_pos v, if_pos ⟨g.1, g.2, v⟩, szP_one (.inr (by omega))]
    ·rw [if_neg v, if_neg (fun h => v h.2.2), szP_bad]
   ·rw [if_neg (fun h => g h.2), if_neg (by omega), if_neg (by omega), if_neg (fun h => g ⟨h.1, h.2.1⟩), szP_bad]
  ·rw [if_neg (fun h => c2 h.1), if_neg c2]
   by_cases c3 : b0 / 16 = 14
   ·rw [if_pos c3]
    by_cases g : (1 < L ∧ b1 / 64 = 2) ∧ (2 < L ∧ b2 / 64 = 2)
    ·rw [if_pos ⟨c3, g⟩]
     split
     ·rename_i v
      rw [if_pos (by omega), szP_one (.inr (by omega))]
     ·rename_i v
      rw [if_neg (by omega), szP_bad]
    ·rw [if_neg (fun h => g h.2), if_neg (by omega), if_neg (by omega), szP_bad]
   ·rw [if_neg (fun h => c3 h.1), if_neg c3]
    by_cases c4 : b0 / 8 = 30
    ·rw [if_pos c4]
     by_cases g : (1 < L ∧ b1 / 64 = 2) ∧ (2 < L ∧ b2 / 64 = 2) ∧ (3 < L ∧ b3 / 64 = 2)
     ·rw [if_pos ⟨c4, g⟩]
      split
      ·rename_i v
       rw [if_pos (by omega), szP_one (.inr (by omega))]
      ·rename_i v
       rw [if_neg (by omega), szP_bad]
     ·rw [if_neg (fun h => g h.2), if_neg (by omega), szP_bad]
    ·rw [if_neg (fun h => c4 h.1), if_neg c4, szP_bad]
theorem bt_off {s : ByteArray} {n : Nat} {l : List UInt8} (hp : Pos s n l) (i : Nat) (hi : i < l.length) : bt s ((n + i : Nat) : Int) = (((l.getD i 0).toNat : Nat) : Int) := by
 have hp2 : Pos s (n + i) (l.drop i) := ⟨by rw [← hp.dr, List.drop_drop], by have := hp.len; omega⟩
 rw [List.drop_eq_getElem_cons hi] at hp2
 rw [hp2.bt, List.getD_eq_getElem?_getD, List.getElem?_eq_getElem hi]
 rfl
theorem l0_step {s : ByteArray} (hs : s.size ≤ 2097152) {n : Nat} {l : List UInt8} (hp : Pos s n l) (k m i p : Nat) (him : i < m) (hi : i < l.length) (hpp : p ≤ 2097152) (hi4 : i < 4) :
  oakumref05_size.l0 (k + 1) s n m p i = if (l.getD i 0).toNat / 64 = 2 then oakumref05_size.l0 k s n m ((64 * p + (l.getD i 0).toNat % 64 : Nat) : Int) ((i + 1 : Nat) : Int) else some 0 := by
 have hlen := hp.len
 have hb := bt_off hp i hi
 have hw : wrap64 ((n : Int) + (i : Int)) = ((n + i : Nat) : Int) := by rw [show (n : Int) + (i : Int) = ((n + i : Nat) : Int) by omega, w64n _ (by omega)]
 have hw2 : wrap64 ((i : Int) + 1) = ((i + 1 : Nat) : Int) := by rw [show (i : Int) + 1 = ((i + 1 : Nat) : Int) by omega, w64n _ (by omega)]
 have hlt : (l.getD i 0).toNat < 256 := (l.getD i 0).toNat_lt
 simp only [oakumref05_size.l0]
 rw [if_pos (by omega), hw, if_pos (by omega), if_pos (by omega), hb, hw2]
 clear hb hw hw2 hlen hi hp
 generalize (l.getD i 0).toNat = b at hlt ⊢
 by_cases h1 : b < 128
 ·rw [if_pos (by omega), if_neg (by omega)]
 ·rw [if_neg (by omega)]
  by_cases h2 : b ≥ 192
  ·rw [if_pos (by omega), if_neg (by omega)]
  ·rw [if_neg (by omega), if_pos (by omega), w64 (64 * (p : Int)) (by omega) (by omega), w64 (b : Int) (by omega) (by omega), w64 (64 * (p : Int) + b) (by omega) (by omega), w64 _ (by omega) (by omega), show 64 * (p : Int) + (b : Int) - 128 = ((64 * p + b % 64 : Nat) : Int) by omega]
theorem l0_end (s : ByteArray) (n : Int) (k m p : Nat) (hm : m = 2 ∨ m = 3 ∨ m = 4) :
  oakumref05_size.l0 (k + 1) s n m p m = some (if (if m = 2 then 128 else if m = 3 then 2048 else 65536) ≤ p ∧ p ≤ 1114111 ∧ (p < 55296 ∨ 57344 ≤ p) then (m : Int) else 0) := by
 simp only [oakumref05_size.l0]
 rw [if_neg (by omega), Option.bind_some, if_pos (by omega), if_pos (by rcases hm with rfl | rfl | rfl <;> decide)]
 have hr : rd ([0, 0, 128, 2048, 65536] : List Int) (m : Int) = ((if m = 2 then 128 else if m = 3 then 2048 else 65536 : Nat) : Int) := by rcases hm with rfl | rfl | rfl <;> rfl
 rw [hr]
 generalize (if m = 2 then 128 else if m = 3 then 2048 else 65536 : Nat) = q
 by_cases a : p < q
 ·rw [if_pos (by omega), if_neg (by omega)]
 ·rw [if_neg (by omega)]
  by_cases b : p > 1114111
  ·rw [if_pos (by omega), if_neg (by omega)]
  ·rw [if_neg (by omega)]
   by_cases c : p ≥ 55296
   ·rw [if_pos (by omega)]
    by_cases d : p ≤ 57343
    ·rw [if_pos (by omega), if_neg (by omega)]
    ·rw [if_neg (by omega), if_pos (by omega)]
   ·rw [if_neg (by omega), if_pos (by omega)]
theorem j2_in {s : ByteArray} (hs : s.size ≤ 2097152) {n : Nat} {l : List UInt8} (hp : Pos s n l) (k c m : Nat) (hm : m = 2 ∨ m = 3 ∨ m = 4) (hc : (if m = 2 then 192 else if m = 3 then 224 else 240) ≤ c) (hc2 : c < 256) :
  oakumref05_size.j2 (k + 2) s n c m = if m ≤ l.length then oakumref05_size.l0 k s n m ((c - (if m = 2 then 192 else if m = 3 then 224 else 240) : Nat) : Int) ((1 : Nat) : Int) else some 0 := by
 have hlen := hp.len
 have hw : wrap64 ((n : Int) + (m : Int)) = ((n + m : Nat) : Int) := by rw [show (n : Int) + (m : Int) = ((n + m : Nat) : Int) by omega, w64n _ (by omega)]
 simp only [oakumref05_size.j2, oakumref05_size.j3]
 rw [if_neg (by omega), hw]
 by_cases h : m ≤ l.length
 ·rw [decide_eq_false (by omega), if_pos h]
  simp only [Bool.false_eq_true, if_false, Option.bind_some]
  rw [if_pos (by omega), if_pos (by rcases hm with rfl | rfl | rfl <;> decide)]
  have hr : rd ([0, 0, 192, 224, 240] : List Int) (m : Int) = ((if m = 2 then 192 else if m = 3 then 224 else 240 : Nat) : Int) := by rcases hm with rfl | rfl | rfl <;> rfl
  rw [hr]
  generalize (if m = 2 then 192 else if m = 3 then 224 else 240 : Nat) = q at hc
  rw [w64 _ (by omega) (by omega), show (c : Int) - (q : Int) = ((c - q : Nat) : Int) by omega]
  rfl
 ·rw [decide_eq_true (by omega), if_neg h]
  simp
theorem size_f {s : ByteArray} (hs : s.size ≤ 2097152) {n : Nat} {l : List UInt8} (hp : Pos s n l) (hl : l ≠ []) (k : Nat) (hk : 20 ≤ k) : oakumref05_size.f k s n = some ((szP (Lib.decodeL l) : Nat) : Int) := by
 obtain ⟨k, rfl⟩ : ∃ K, k = K + 20 := ⟨k - 20, by omega⟩
 have hlen := hp.len
 have hpos : 0 < l.length := List.length_pos_iff.2 hl
 have hb := bt_off hp 0 hpos
 rw [Nat.add_zero] at hb
 rw [Lib.decodeL_N, sz_decode _ _ _ _ _ (l.getD 0 0).toNat_lt]
 unfold oakumref05_size.f
 have hlt : (l.getD 0 0).toNat < 256 := (l.getD 0 0).toNat_lt
 rw [if_pos (by omega), if_pos (by omega), hb]
 have hj2 := fun K m hm => j2_in hs hp K (l.getD 0 0).toNat m hm
 have hst := fun K m i p h1 h2 h3 h4 => l0_step hs hp K m i p h1 h2 h3 h4
 have hen := fun K m p hm => l0_end s (n : Int) K m p hm
 have g1 : (l.getD 1 0).toNat < 256 := (l.getD 1 0).toNat_lt
 have g2 : (l.getD 2 0).toNat < 256 := (l.getD 2 0).toNat_lt
 have g3 : (l.getD 3 0).toNat < 256 := (l.getD 3 0).toNat_lt
 clear hb hp hlen
 generalize (l.getD 0 0).toNat = b0 at hlt hj2 ⊢
 have hst1 := fun K m p h1 h2 h3 => hst K m 1 p h1 h2 h3 (by omega)
 have hst2 := fun K m p h1 h2 h3 => hst K m 2 p h1 h2 h3 (by omega)
 have hst3 := fun K m p h1 h2 h3 => hst K m 3 p h1 h2 h3 (by omega)
 clear hst
 generalize (l.getD 1 0).toNat = b1 at g1 hst1 ⊢
 generalize (l.getD 2 0).toNat = b2 at g2 hst2 ⊢
 generalize (l.getD 3 0).toNat = b3 at g3 hst3 ⊢
 generalize l.length = L at hpos hj2 hst1 hst2 hst3 ⊢
 rw [w64 (b0 : Int) (by omega) (by omega)]
 unfold refSz
 by_cases c0 : b0 < 128
 ·rw [if_pos (by omega), if_pos c0]; rfl
 ·rw [if_neg (by omega), if_neg c0]
  by_cases c1 : b0 < 192
  ·rw [if_neg (by omega), if_neg (by omega), if_neg (by omega), if_neg (by omega)]
   simp only [oakumref05_size.j0, Bool.false_eq_true, if_false]
   rw [if_neg (by omega)]
   simp only [oakumref05_size.j1, Bool.false_eq_true, if_false]
   rw [if_neg (by omega)]
   simp only [oakumref05_size.j2, if_true]
   simp only [oakumref05_size.j3, if_true]
   rfl
  ·rw [if_pos (by omega)]
   by_cases c2 : b0 < 224
   ·rw [decide_eq_true (by omega), if_pos (by omega)]
    simp only [oakumref05_size.j0, if_true]
    have := hj2 (K := k + 17) (m := 2) (.inl rfl) (by simp; omega) hlt
    rw [show ((2 : Nat) : Int) = 2 from rfl] at this
    rw [this]
    by_cases e1 : 2 ≤ L
    ·rw [if_pos e1, show (2 : Int) = ((2 : Nat) : Int) from rfl, hst1 (k + 16) 2 _ (by omega) (by omega) (by omega)]
     by_cases e2 : b1 / 64 = 2
     ·rw [if_pos e2, show (1 + 1 : Nat) = 2 from rfl, hen (k + 15) 2 _ (.inl rfl)]
      simp only [if_true]
      by_cases e3 : 128 ≤ b0 % 32 * 64 + b1 % 64
      ·rw [if_pos (by omega), if_pos (by omega)]
      ·rw [if_neg (by omega), if_neg (by omega)]; rfl
     ·rw [if_neg e2, if_neg (by omega)]; rfl
    ·rw [if_neg e1, if_neg (by omega)]; rfl
   ·rw [decide_eq_false (by omega), if_neg (by omega)]
    simp only [oakumref05_size.j0, Bool.false_eq_true, if_false]
    rw [if_pos (by omega)]
    by_cases c3 : b0 < 240
    ·rw [decide_eq_true (by omega), if_pos (by omega)]
     simp only [oakumref05_size.j1, if_true]
     have := hj2 (K := k + 16) (m := 3) (.inr (.inl rfl)) (by simp; omega) hlt
     rw [show ((3 : Nat) : Int) = 3 from rfl] at this
     rw [this]
     by_cases e1 : 3 ≤ L
     ·rw [if_pos e1, show (3 : Int) = ((3 : Nat) : Int) from rfl, hst1 (k + 15) 3 _ (by omega) (by omega) (by simp; omega)]
      by_cases e2 : b1 / 64 = 2
      ·rw [if_pos e2, show (1 + 1 : Nat) = 2 from rfl, hst2 (k + 14) 3 _ (by omega) (by omega) (by simp; omega)]
       by_cases e3 : b2 / 64 = 2
       ·rw [if_pos e3, show (2 + 1 : Nat) = 3 from rfl, hen (k + 13) 3 _ (.inr (.inl rfl))]
        simp only [show ¬ (3 : Nat) = 2 by decide, if_false, if_true]
        by_cases e4 : 2048 ≤ b0 % 16 * 4096 + b1 % 64 * 64 + b2 % 64 ∧ (b0 % 16 * 4096 + b1 % 64 * 64 + b2 % 64 < 55296 ∨ 57344 ≤ b0 % 16 * 4096 + b1 % 64 * 64 + b2 % 64)
        ·rw [if_pos (by omega), if_pos (by omega)]
        ·rw [if_neg (by omega), if_neg (by omega)]; rfl
       ·rw [if_neg e3, if_neg (by omega)]; rfl
      ·rw [if_neg e2, if_neg (by omega)]; rfl
     ·rw [if_neg e1, if_neg (by omega)]; rfl
    ·rw [decide_eq_false (by omega), if_neg (by omega)]
     simp only [oakumref05_size.j1, Bool.false_eq_true, if_false]
     rw [if_pos (by omega)]
     by_cases c4 : b0 < 248
     ·rw [if_pos (by omega), if_pos (by omega)]
      have := hj2 (K := k + 16) (m := 4) (.inr (.inr rfl)) (by simp; omega) hlt
      rw [show ((4 : Nat) : Int) = 4 from rfl] at this
      rw [this]
      by_cases e1 : 4 ≤ L
      ·rw [if_pos e1, show (4 : Int) = ((4 : Nat) : Int) from rfl, hst1 (k + 15) 4 _ (by omega) (by omega) (by simp; omega)]
       by_cases e2 : b1 / 64 = 2
       ·rw [if_pos e2, show (1 + 1 : Nat) = 2 from rfl, hst2 (k + 14) 4 _ (by omega) (by omega) (by simp; omega)]
        by_cases e3 : b2 / 64 = 2
        ·rw [if_pos e3, show (2 + 1 : Nat) = 3 from rfl, hst3 (k + 13) 4 _ (by omega) (by omega) (by simp; omega)]
         by_cases e4 : b3 / 64 = 2
         ·rw [if_pos e4, show (3 + 1 : Nat) = 4 from rfl, hen (k + 12) 4 _ (.inr (.inr rfl))]
          simp only [show ¬ (4 : Nat) = 2 by decide, show ¬ (4 : Nat) = 3 by decide, if_false]
          by_cases e5 : 65536 ≤ b0 % 8 * 262144 + b1 % 64 * 4096 + b2 % 64 * 64 + b3 % 64 ∧ b0 % 8 * 262144 + b1 % 64 * 4096 + b2 % 64 * 64 + b3 % 64 ≤ 1114111
          ·rw [if_pos (by omega), if_pos (by omega)]
          ·rw [if_neg (by omega), if_neg (by omega)]; rfl
         ·rw [if_neg e4, if_neg (by omega)]; rfl
        ·rw [if_neg e3, if_neg (by omega)]; rfl
       ·rw [if_neg e2, if_neg (by omega)]; rfl
      ·rw [if_neg e1, if_neg (by omega)]; rfl
     ·rw [if_neg (by omega), if_neg (by omega)]
      simp only [oakumref05_size.j2, if_true]
      simp only [oakumref05_size.j3, if_true]
      rfl
def endsL : Nat → List UInt8 → Nat → List Int
 | 0, _, _ => []
 | _ + 1, [], _ => []
 | f + 1, c :: t, n => if szP (Lib.decodeL (c :: t)) = 0 then -((n + 1 : Nat) : Int) :: endsL f t (n + 1) else ((n + szP (Lib.decodeL (c :: t)) : Nat) : Int) :: endsL f ((c :: t).drop (szP (Lib.decodeL (c :: t)))) (n + szP (Lib.decodeL (c :: t)))
theorem szP_zero (l : List UInt8) : szP (Lib.decodeL l) = 0 ↔ Lib.decodeL l = (65533, 1) := by
 have h := decodeL_ge l
 unfold szP
 split
 ·rename_i e; simp [e]
 ·rename_i e
  constructor
  ·intro h0; omega
  ·intro h0; exact absurd h0 e
theorem bad_ends : ∀ (f : Nat) (l : List UInt8) (n : Nat), decide (badAt f l n < 0) = (endsL f l n).all fun x => decide (0 ≤ x)
 | 0, _, _ => rfl
 | _ + 1, [], _ => rfl
 | f + 1, c :: t, n => by
  unfold badAt endsL
  by_cases h : Lib.decodeL (c :: t) = (65533, 1)
  ·rw [if_pos h, if_pos ((szP_zero _).2 h), List.all_cons, decide_eq_false (show ¬ (n : Int) < 0 by omega), decide_eq_false (show ¬ 0 ≤ -((n + 1 : Nat) : Int) by omega)]
   rfl
  ·have h0 : ¬ szP (Lib.decodeL (c :: t)) = 0 := fun e => h ((szP_zero _).1 e)
   have hz : szP (Lib.decodeL (c :: t)) = (Lib.decodeL (c :: t)).2 := by unfold szP; rw [if_neg h]
   rw [if_neg h, if_neg h0, hz, bad_ends f, List.all_cons, decide_eq_true (show 0 ≤ ((n + (Lib.decodeL (c :: t)).2 : Nat) : Int) by omega), Bool.true_and]
theorem szP_le (c : UInt8) (t : List UInt8) : szP (Lib.decodeL (c :: t)) ≤ t.length + 1 := by
 have := Lib.decodeL_le (c :: t) (by simp)
 unfold szP
 split
 ·omega
 ·simpa using this
theorem ends_low : ∀ (f : Nat) (l : List UInt8) (n : Nat), n + l.length ≤ 2097152 → ∀ x ∈ endsL f l n, -4194304 ≤ x
 | 0, _, _, _, x, hx => by simp [endsL] at hx
 | _ + 1, [], _, _, x, hx => by simp [endsL] at hx
 | f + 1, c :: t, n, h, x, hx => by
  have hs := szP_le c t
  unfold endsL at hx
  simp only [List.length_cons] at h
  split at hx
  ·rcases List.mem_cons.1 hx with rfl | hx
   ·omega
   ·exact ends_low f t (n + 1) (by omega) x hx
  ·rcases List.mem_cons.1 hx with rfl | hx
   ·omega
   ·exact ends_low f _ _ (by rw [List.length_drop, List.length_cons]; omega) x hx
theorem ends_len : ∀ (f : Nat) (l : List UInt8) (n : Nat), (endsL f l n).length ≤ l.length
 | 0, _, _ => Nat.zero_le _
 | _ + 1, [], _ => Nat.zero_le _
 | f + 1, c :: t, n => by
  unfold endsL
  split
  ·have := ends_len f t (n + 1)
   simp; omega
  ·rename_i h
   have := ends_len f ((c :: t).drop (szP (Lib.decodeL (c :: t)))) (n + szP (Lib.decodeL (c :: t)))
   rw [List.length_drop] at this
   simp only [List.length_cons] at this ⊢
   omega
theorem pos_skip {s : ByteArray} {n : Nat} {l : List UInt8} (hp : Pos s n l) (j : Nat) (h : j ≤ l.length) : Pos s (n + j) (l.drop j) :=
 ⟨by rw [← hp.dr, List.drop_drop], by have := hp.len; omega⟩
theorem ends_l0 (s : ByteArray) (hs : s.size ≤ 2097152) : ∀ (f : Nat) (l : List UInt8) (n k : Nat) (acc : List Int), Pos s n l → l.length < f → l.length + 25 ≤ k → acc.length + l.length ≤ 4194304 →
  oakumref05_Ends.l0 k s acc (n : Int) = some (acc ++ endsL f l n)
 | 0, _, _, _, _, _, h, _, _ => absurd h (Nat.not_lt_zero _)
 | f + 1, [], n, k, acc, hp, _, hk, _ => by
  obtain ⟨k, rfl⟩ : ∃ j, k = j + 1 := ⟨k - 1, by omega⟩
  have := hp.len
  simp only [List.length_nil] at this
  simp only [oakumref05_Ends.l0]
  rw [if_neg (by omega)]
  simp [endsL]
 | f + 1, c :: t, n, k, acc, hp, hf, hk, ha => by
  obtain ⟨k, rfl⟩ : ∃ j, k = j + 1 := ⟨k - 1, by omega⟩
  have hlen := hp.len
  simp only [List.length_cons] at hlen hf hk ha
  have hsz := szP_le c t
  simp only [oakumref05_Ends.l0]
  rw [if_pos (by omega), size_f hs hp (by simp) k (by omega), Option.bind_some]
  unfold endsL
  have w1 : wrap64 ((n : Int) + 1) = ((n + 1 : Nat) : Int) := by rw [show (n : Int) + 1 = ((n + 1 : Nat) : Int) by omega, w64n _ (by omega)]
  by_cases h0 : szP (Lib.decodeL (c :: t)) = 0
  ·rw [if_pos (by omega), if_pos (by omega), if_pos h0, w1, w64 (-((n + 1 : Nat) : Int)) (by omega) (by omega)]
   rw [ends_l0 s hs f t (n + 1) k _ hp.next (by omega) (by omega) (by simp; omega)]
   simp
  ·rw [if_neg (by omega), if_pos (by omega), if_neg h0]
   have w2 : wrap64 ((n : Int) + ((szP (Lib.decodeL (c :: t)) : Nat) : Int)) = ((n + szP (Lib.decodeL (c :: t)) : Nat) : Int) := by
    rw [show (n : Int) + ((szP (Lib.decodeL (c :: t)) : Nat) : Int) = ((n + szP (Lib.decodeL (c :: t)) : Nat) : Int) by omega, w64n _ (by omega)]
   rw [w2]
   have hdl : ((c :: t).drop (szP (Lib.decodeL (c :: t)))).length = t.length + 1 - szP (Lib.decodeL (c :: t)) := by rw [List.length_drop, List.length_cons]
   rw [ends_l0 s hs f _ _ k _ (pos_skip hp _ (by rw [List.length_cons]; exact hsz)) (by omega) (by omega) (by simp only [List.length_append, List.length_cons, List.length_nil]; omega)]
   simp
theorem fst_l0 (L : List Int) (hL : ∀ x ∈ L, -4194304 ≤ x) (hl : L.length ≤ 4194304) : ∀ (m : List Int) (i k : Nat), L.drop i = m → m.length < k →
  ∃ v, oakumref05_First.l0 k L (i : Int) = some v ∧ decide (v < 0) = m.all fun x => decide (0 ≤ x)
 | [], i, k, hd, hk => by
  obtain ⟨k, rfl⟩ : ∃ j, k = j + 1 := ⟨k - 1, by simp at hk; omega⟩
  have : L.length ≤ i := List.drop_eq_nil_iff.1 hd
  simp only [oakumref05_First.l0]
  rw [if_neg (by omega)]
  exact ⟨-1, rfl, rfl⟩
 | x :: m, i, k, hd, hk => by
  obtain ⟨k, rfl⟩ : ∃ j, k = j + 1 := ⟨k - 1, by simp at hk; omega⟩
  have hi : i < L.length := by
   have := congrArg List.length hd
   simp at this
   omega
  have hx : rd L (i : Int) = x := by
   rw [List.drop_eq_getElem_cons hi] at hd
   have := (List.cons.inj hd).1
   unfold rd
   rw [Int.toNat_natCast, List.getD_eq_getElem?_getD, List.getElem?_eq_getElem hi]
   exact this
  have ht : L.drop (i + 1) = m := by
   rw [List.drop_eq_getElem_cons hi] at hd
   exact (List.cons.inj hd).2
  have hlow : -4194304 ≤ x := by
   apply hL
   rw [← hx]
   unfold rd
   rw [Int.toNat_natCast, List.getD_eq_getElem?_getD, List.getElem?_eq_getElem hi]
   exact List.getElem_mem hi
  simp only [oakumref05_First.l0]
  rw [if_pos (by omega), if_pos (by omega), hx]
  by_cases h0 : x < 0
  ·rw [if_pos h0, w64 (-x) (by omega) (by omega), w64 _ (by omega) (by omega)]
   refine ⟨_, rfl, ?_⟩
   rw [List.all_cons, decide_eq_false (show ¬ 0 ≤ x by omega), decide_eq_false (by omega)]
   rfl
  ·rw [if_neg h0, show (i : Int) + 1 = ((i + 1 : Nat) : Int) by omega, w64n _ (by omega)]
   obtain ⟨v, e1, e2⟩ := fst_l0 L hL hl m (i + 1) k ht (by simp at hk; omega)
   refine ⟨v, e1, ?_⟩
   rw [e2, List.all_cons, decide_eq_true (show 0 ≤ x by omega)]
   rfl
def okU (l : List UInt8) : Bool := decide (badAt (l.length + 1) l 0 < 0)
theorem first_ref (s : ByteArray) (hs : s.size ≤ 2097152) (k : Nat) (hk : s.size + 30 ≤ k) : ∃ v, oakumref05_First.f k s = some v ∧ decide (v < 0) = okU s.data.toList := by
 unfold oakumref05_First.f oakumref05_Ends.f okU
 have hl := data_length s
 have he := ends_l0 s hs (s.data.toList.length + 1) s.data.toList 0 k [] (Pos.zero s) (Nat.lt_succ_self _) (by omega) (by simp only [List.length_nil]; omega)
 rw [List.nil_append, show ((0 : Nat) : Int) = 0 from rfl] at he
 rw [he, Option.bind_some, bad_ends]
 have h2 := ends_len (s.data.toList.length + 1) s.data.toList 0
 exact fst_l0 _ (ends_low _ _ _ (by omega)) (by omega) _ 0 k rfl (by omega)
theorem right_prog (s : ByteArray) (hs : s.size ≤ 2097152) : utf_Right.f s = some (okU s.data.toList) := by
 unfold utf_Right.f utf_First.f okU
 rw [if_pos (by omega), Option.bind_some, data_length]
end Go.Proofs.YtejdmofljifkbaaGreatDoor.P
namespace Go.Proofs.YtejdmofljifkbaaGreatDoor.P
open Go.RowKit Go.Proofs.YtejdmofljifkbaaGreatDoorW.PrintWords Go.Proofs.YtejdmofljifkbaaGreatDoorW.PrintLast Go.Proofs.YtejdmofljifkbaaGreatDoorW.PrintMore
def kPath : List UInt8 := [112, 97, 116, 104]
def kLink : List UInt8 := [108, 105, 110, 107, 112, 97, 116, 104]
def kUname : List UInt8 := [117, 110, 97, 109, 101]
def kGname : List UInt8 := [103, 110, 97, 109, 101]
def kUid : List UInt8 := [117, 105, 100]
def kGid : List UInt8 := [103, 105, 100]
def kSize : List UInt8 := [115, 105, 122, 101]
def kMtime : List UInt8 := [109, 116, 105, 109, 101]
def valOK (key v : List UInt8) : Bool :=
 if v = [] then true
 else if key = kPath ∨ key = kLink ∨ key = kUname ∨ key = kGname then cleanL v
 else if key = kUid ∨ key = kGid ∨ key = kSize then numOK v
 else if key = kMtime then timeOK v
 else true
def pairOK (key v : List UInt8) : Bool := !key.isEmpty && (okU key && (okU v && (!barL key && valOK key v)))
theorem clean_prog (s : ByteArray) : pax_clean.f s = some (cleanL s.data.toList) := by
 unfold pax_clean.f strings_IndexByte.f
 rw [Option.bind_some, show (0 : Int).toNat.toUInt8 = 0 from rfl, index_clean]
theorem value_prog (a v : ByteArray) (hv : v.size ≤ 2097152) (k : Nat) (hk : v.size + 20 ≤ k) : pax_value.f k a v = some (okU v.data.toList && valOK a.data.toList v.data.toList) := by
 obtain ⟨k, rfl⟩ : ∃ j, k = j + 2 := ⟨k - 2, by omega⟩
 unfold pax_value.f
 rw [right_prog v hv, Option.bind_some]
 simp only [Lib.toList_data]
 cases hu : okU v.data.toList with
 | false => rfl
 | true =>
  simp only [if_true, Bool.true_and]
  unfold valOK
  by_cases h0 : v.data.toList = []
  ·rw [if_pos h0, if_pos h0]
  ·rw [if_neg h0, if_neg h0]
   have hj0t : ∀ x11, pax_value.j0 (k + 2) v 0 x11 true = some (cleanL v.data.toList) := by
    intro x11
    simp only [pax_value.j0, if_true]
    rw [clean_prog]; rfl
   by_cases h1 : a.data.toList = kPath
   ·rw [if_pos (show a.data.toList = [112, 97, 116, 104] from h1), show (a.data.toList == [112, 97, 116, 104]) = true from beq_iff_eq.2 h1, if_pos (.inl h1)]
    exact hj0t a
   ·rw [if_neg (show ¬ a.data.toList = [112, 97, 116, 104] from h1)]
    by_cases h2 : a.data.toList = kLink
    ·rw [if_pos (show a.data.toList = [108, 105, 110, 107, 112, 97, 116, 104] from h2), show (a.data.toList == [108, 105, 110, 107, 112, 97, 116, 104]) = true from beq_iff_eq.2 h2, if_pos (.inr (.inl h2))]
     exact hj0t a
    ·rw [if_neg (show ¬ a.data.toList = [108, 105, 110, 107, 112, 97, 116, 104] from h2)]
     by_cases h3 : a.data.toList = kUname
     ·rw [if_pos (show a.data.toList = [117, 110, 97, 109, 101] from h3), show (a.data.toList == [117, 110, 97, 109, 101]) = true from beq_iff_eq.2 h3, if_pos (.inr (.inr (.inl h3)))]
      exact hj0t a
     ·rw [if_neg (show ¬ a.data.toList = [117, 110, 97, 109, 101] from h3)]
      by_cases h4 : a.data.toList = kGname
      ·rw [show (a.data.toList == [103, 110, 97, 109, 101]) = true from beq_iff_eq.2 h4, if_pos (.inr (.inr (.inr h4)))]
       exact hj0t a
      ·rw [show (a.data.toList == [103, 110, 97, 109, 101]) = false from beq_eq_false_iff_ne.2 h4, if_neg (by rintro (h | h | h | h) <;> contradiction)]
       have hnum : pax_value.j1 (k + 1) v 0 a true = some (numOK v.data.toList) := by
        simp only [pax_value.j1, if_true]
        obtain ⟨x, c, e1, e2⟩ := number_prog v (by omega)
        rw [e1, Option.bind_some, e2]
       simp only [pax_value.j0, Bool.false_eq_true, if_false, Lib.toList_data]
       by_cases h5 : a.data.toList = kUid
       ·rw [if_pos (show a.data.toList = [117, 105, 100] from h5), show (a.data.toList == [117, 105, 100]) = true from beq_iff_eq.2 h5, if_pos (.inl h5)]
        exact hnum
       ·rw [if_neg (show ¬ a.data.toList = [117, 105, 100] from h5)]
        by_cases h6 : a.data.toList = kGid
        ·rw [if_pos (show a.data.toList = [103, 105, 100] from h6), show (a.data.toList == [103, 105, 100]) = true from beq_iff_eq.2 h6, if_pos (.inr (.inl h6))]
         exact hnum
        ·rw [if_neg (show ¬ a.data.toList = [103, 105, 100] from h6)]
         by_cases h7 : a.data.toList = kSize
         ·rw [show (a.data.toList == [115, 105, 122, 101]) = true from beq_iff_eq.2 h7, if_pos (.inr (.inr h7))]
          exact hnum
         ·rw [show (a.data.toList == [115, 105, 122, 101]) = false from beq_eq_false_iff_ne.2 h7, if_neg (by rintro (h | h | h) <;> contradiction)]
          simp only [pax_value.j1, Bool.false_eq_true, if_false, Lib.toList_data]
          by_cases h8 : a.data.toList = kMtime
          ·rw [if_pos (show a.data.toList = [109, 116, 105, 109, 101] from h8), if_pos h8]
           obtain ⟨x, n, c, e1, e2⟩ := time_prog v hv k (by omega)
           rw [e1, Option.bind_some, e2]
          ·rw [if_neg (show ¬ a.data.toList = [109, 116, 105, 109, 101] from h8), if_neg h8]
           rfl
theorem pair_prog (a v : ByteArray) (ha : a.size ≤ 2097152) (hv : v.size ≤ 2097152) (k : Nat) (hk : v.size + 20 ≤ k) : pax_Right.f k a v = some (pairOK a.data.toList v.data.toList) := by
 unfold pax_Right.f pairOK
 simp only [Lib.toList_data]
 by_cases h0 : a.data.toList = []
 ·rw [if_pos h0, h0]; rfl
 ·rw [if_neg h0, right_prog a ha, Option.bind_some, show a.data.toList.isEmpty = false by cases h : a.data.toList; exact absurd h h0; rfl]
  cases hu : okU a.data.toList with
  | false => rfl
  | true =>
   simp only [if_true, Bool.true_and, Bool.not_false]
   unfold strings_ContainsAny.f
   rw [if_pos ⟨rfl, by omega⟩, Option.bind_some, value_prog a v hv k hk]
   cases barL a.data.toList <;> cases okU v.data.toList <;> rfl
theorem bar_clean (l : List UInt8) : barL l = (!cleanL l || l.any fun c => c == 61) := by
 induction l with
 | nil => rfl
 | cons c t ih =>
  unfold barL cleanL at ih ⊢
  simp only [List.any_cons, List.all_cons, ih]
  have : (c != 0) = !(c == 0) := rfl
  rw [this]
  cases (c == 61) <;> cases (c == 0) <;> cases (t.all fun c => c != 0) <;> cases (t.any fun c => c == 61) <;> rfl
def whI (l : List UInt8) : Int :=
 if kPath = l then 0 else if kLink = l then 1 else if kUname = l then 2 else if kGname = l then 3 else if kUid = l then 4 else if kGid = l then 5 else if kSize = l then 6 else if kMtime = l then 7 else -1
theorem which_step (s : ByteArray) (L : List ByteArray) (hL : L.length ≤ 100) (k i : Nat) (hi : i < L.length) :
  oakumref07_Which.l0 (k + 1) s L (i : Int) = if (rdOf ByteArray.empty L (i : Int)).data.toList = s.data.toList then some (i : Int) else oakumref07_Which.l0 k s L ((i + 1 : Nat) : Int) := by
 simp only [oakumref07_Which.l0]
 rw [if_pos (by omega), if_pos (by omega), show (i : Int) + 1 = ((i + 1 : Nat) : Int) by omega, w64n _ (by omega), Lib.toList_data, Lib.toList_data]
theorem which_is (s : ByteArray) (k : Nat) (hk : 10 ≤ k) : oakumref07_Which.f k s = some (whI s.data.toList) := by
 obtain ⟨k, rfl⟩ : ∃ j, k = j + 10 := ⟨k - 10, by omega⟩
 unfold oakumref07_Which.f oakumref07_Keys.f whI
 rw [Option.bind_some]
 obtain ⟨L, hL⟩ : ∃ L : List ByteArray, [(⟨#[112, 97, 116, 104]⟩ : ByteArray), (⟨#[108, 105, 110, 107, 112, 97, 116, 104]⟩ : ByteArray), (⟨#[117, 110, 97, 109, 101]⟩ : ByteArray), (⟨#[103, 110, 97, 109, 101]⟩ : ByteArray), (⟨#[117, 105, 100]⟩ : ByteArray), (⟨#[103, 105, 100]⟩ : ByteArray), (⟨#[115, 105, 122, 101]⟩ : ByteArray), (⟨#[109, 116, 105, 109, 101]⟩ : ByteArray)] = L := ⟨_, rfl⟩
 have hl : L.length = 8 := by rw [← hL]; rfl
 have d0 : (rdOf ByteArray.empty L ((0 : Nat) : Int)).data.toList = kPath := by rw [← hL]; rfl
 have d1 : (rdOf ByteArray.empty L ((1 : Nat) : Int)).data.toList = kLink := by rw [← hL]; rfl
 have d2 : (rdOf ByteArray.empty L ((2 : Nat) : Int)).data.toList = kUname := by rw [← hL]; rfl
 have d3 : (rdOf ByteArray.empty L ((3 : Nat) : Int)).data.toList = kGname := by rw [← hL]; rfl
 have d4 : (rdOf ByteArray.empty L ((4 : Nat) : Int)).data.toList = kUid := by rw [← hL]; rfl
 have d5 : (rdOf ByteArray.empty L ((5 : Nat) : Int)).data.toList = kGid := by rw [← hL]; rfl
 have d6 : (rdOf ByteArray.empty L ((6 : Nat) : Int)).data.toList = kSize := by rw [← hL]; rfl
 have d7 : (rdOf ByteArray.empty L ((7 : Nat) : Int)).data.toList = kMtime := by rw [← hL]; rfl
 have t0 := which_step s L (by omega) (k + 9) 0 (by omega)
 have t1 := which_step s L (by omega) (k + 8) 1 (by omega)
 have t2 := which_step s L (by omega) (k + 7) 2 (by omega)
 have t3 := which_step s L (by omega) (k + 6) 3 (by omega)
 have t4 := which_step s L (by omega) (k + 5) 4 (by omega)
 have t5 := which_step s L (by omega) (k + 4) 5 (by omega)
 have t6 := which_step s L (by omega) (k + 3) 6 (by omega)
 have t7 := which_step s L (by omega) (k + 2) 7 (by omega)
 have t8 : oakumref07_Which.l0 (k + 2) s L ((8 : Nat) : Int) = some (-1) := by
  simp only [oakumref07_Which.l0]
  rw [if_neg (by omega)]
 rw [d0] at t0
 rw [d1] at t1
 rw [d2] at t2
 rw [d3] at t3
 rw [d4] at t4
 rw [d5] at t5
 rw [d6] at t6
 rw [d7] at t7
 rw [hL]
 refine t0.trans ?_
 by_cases c0 : kPath = s.data.toList
 ·rw [if_pos c0, if_pos c0]; rfl
 rw [if_neg c0, if_neg c0]
 refine t1.trans ?_
 by_cases c1 : kLink = s.data.toList
 ·rw [if_pos c1, if_pos c1]; rfl
 rw [if_neg c1, if_neg c1]
 refine t2.trans ?_
 by_cases c2 : kUname = s.data.toList
 ·rw [if_pos c2, if_pos c2]; rfl
 rw [if_neg c2, if_neg c2]
 refine t3.trans ?_
 by_cases c3 : kGname = s.data.toList
 ·rw [if_pos c3, if_pos c3]; rfl
 rw [if_neg c3, if_neg c3]
 refine t4.trans ?_
 by_cases c4 : kUid = s.data.toList
 ·rw [if_pos c4, if_pos c4]; rfl
 rw [if_neg c4, if_neg c4]
 refine t5.trans ?_
 by_cases c5 : kGid = s.data.toList
 ·rw [if_pos c5, if_pos c5]; rfl
 rw [if_neg c5, if_neg c5]
 refine t6.trans ?_
 by_cases c6 : kSize = s.data.toList
 ·rw [if_pos c6, if_pos c6]; rfl
 rw [if_neg c6, if_neg c6]
 refine t7.trans ?_
 by_cases c7 : kMtime = s.data.toList
 ·rw [if_pos c7, if_pos c7]; rfl
 rw [if_neg c7, if_neg c7]
 exact t8
theorem whI_val (key v : List UInt8) : valOK key v = (if v = [] then true else if whI key < 0 then true else if whI key < 4 then cleanL v else if whI key < 7 then numOK v else timeOK v) := by
 unfold valOK whI
 by_cases h0 : v = []
 ·rw [if_pos h0, if_pos h0]
 ·rw [if_neg h0, if_neg h0]
  by_cases c0 : key = kPath
  ·subst c0; simp
  by_cases c1 : key = kLink
  ·subst c1; simp [show ¬ kPath = kLink by decide]
  by_cases c2 : key = kUname
  ·subst c2; simp [show ¬ kPath = kUname by decide, show ¬ kLink = kUname by decide]
  by_cases c3 : key = kGname
  ·subst c3; simp [show ¬ kPath = kGname by decide, show ¬ kLink = kGname by decide, show ¬ kUname = kGname by decide]
  rw [if_neg (by rintro (h | h | h | h) <;> contradiction)]
  by_cases c4 : key = kUid
  ·subst c4; simp [show ¬ kPath = kUid by decide, show ¬ kLink = kUid by decide, show ¬ kUname = kUid by decide, show ¬ kGname = kUid by decide]
  by_cases c5 : key = kGid
  ·subst c5; simp [show ¬ kPath = kGid by decide, show ¬ kLink = kGid by decide, show ¬ kUname = kGid by decide, show ¬ kGname = kGid by decide, show ¬ kUid = kGid by decide]
  by_cases c6 : key = kSize
  ·subst c6; simp [show ¬ kPath = kSize by decide, show ¬ kLink = kSize by decide, show ¬ kUname = kSize by decide, show ¬ kGname = kSize by decide, show ¬ kUid = kSize by decide, show ¬ kGid = kSize by decide]
  rw [if_neg (by rintro (h | h | h) <;> contradiction)]
  by_cases c7 : key = kMtime
  ·subst c7; simp [show ¬ kPath = kMtime by decide, show ¬ kLink = kMtime by decide, show ¬ kUname = kMtime by decide, show ¬ kGname = kMtime by decide, show ¬ kUid = kMtime by decide, show ¬ kGid = kMtime by decide, show ¬ kSize = kMtime by decide]
  simp [Ne.symm c0, Ne.symm c1, Ne.symm c2, Ne.symm c3, Ne.symm c4, Ne.symm c5, Ne.symm c6, Ne.symm c7, c7]
theorem val_end (a v : ByteArray) (ha : a.size ≤ 2097152) (hv : v.size ≤ 2097152) (k : Nat) (hk : 2 * v.size + 60 ≤ k) : oakumref07_Right.l0 k ((a.size : Nat) : Int) a v = some (valOK a.data.toList v.data.toList) := by
 obtain ⟨k, rfl⟩ : ∃ j, k = j + 2 := ⟨k - 2, by omega⟩
 simp only [oakumref07_Right.l0, Lib.toList_data]
 rw [if_neg (by omega), which_is a (k + 1) (by omega), Option.bind_some, whI_val]
 by_cases h0 : v.data.toList = []
 ·rw [if_pos h0, if_pos h0]
  simp only [oakumref07_Right.j2, if_true]
 ·rw [if_neg h0, if_neg h0]
  by_cases h1 : whI a.data.toList < 0
  ·rw [decide_eq_true h1, if_pos h1]
   simp only [oakumref07_Right.j2, if_true]
  ·rw [decide_eq_false h1, if_neg h1]
   simp only [oakumref07_Right.j2, Bool.false_eq_true, if_false]
   by_cases h4 : whI a.data.toList < 4
   ·rw [if_pos h4, if_pos h4]
    unfold oakumref02_Clean.f
    rw [if_pos (by omega)]
    rfl
   ·rw [if_neg h4, if_neg h4]
    by_cases h7 : whI a.data.toList < 7
    ·rw [if_pos h7, if_pos h7]
     obtain ⟨x, e⟩ := number_ref v (by omega) k (by omega)
     rw [e]
     rfl
    ·rw [if_neg h7, if_neg h7]
     obtain ⟨x, n, e⟩ := time_ref v hv k (by omega)
     rw [e]
     rfl
theorem bar_l0 (a v : ByteArray) (ha : a.size ≤ 2097152) (hv : v.size ≤ 2097152) : ∀ (l : List UInt8) (n k : Nat), Pos a n l → l.length + 2 * v.size + 61 ≤ k →
  oakumref07_Right.l0 k (n : Int) a v = some (!(l.any fun c => c == 61) && valOK a.data.toList v.data.toList)
 | [], n, k, hp, hk => by
  have hn : n = a.size := by have := hp.len; simpa using this
  subst hn
  rw [val_end a v ha hv k (by simp at hk; omega)]
  rfl
 | c :: t, n, k, hp, hk => by
  obtain ⟨k, rfl⟩ : ∃ j, k = j + 1 := ⟨k - 1, by omega⟩
  have hlt := hp.lt
  have hb := hp.bt
  have ih := bar_l0 a v ha hv t (n + 1) k hp.next (by simp only [List.length_cons] at hk; omega)
  simp only [oakumref07_Right.l0]
  rw [if_pos (by omega), if_pos (by omega), hb, show (n : Int) + 1 = ((n + 1 : Nat) : Int) by omega, w64n _ (by omega), ih, List.any_cons]
  by_cases hc : c = 61
  ·subst hc
   rw [if_pos (by rfl)]
   rfl
  ·rw [if_neg (by
    intro h
    apply hc
    apply UInt8.toNat_inj.1
    rw [show (61 : UInt8).toNat = 61 from rfl]
    omega), show (c == 61) = false by simp [hc], Bool.false_or]
theorem pair_ref (a v : ByteArray) (ha : a.size ≤ 2097152) (hv : v.size ≤ 2097152) (k : Nat) (hk : a.size + 2 * v.size + 100 ≤ k) : oakumref07_Right.f k a v = some (pairOK a.data.toList v.data.toList) := by
 obtain ⟨k, rfl⟩ : ∃ j, k = j + 1 := ⟨k - 1, by omega⟩
 have hbad : ∀ a v, oakumref07_Right.j0 (k + 1) true a v = some false := by
  intro a v
  simp only [oakumref07_Right.j0, if_true]
 unfold oakumref07_Right.f pairOK
 rw [Lib.toList_data]
 by_cases h0 : a.data.toList = []
 ·rw [if_pos h0, hbad, h0]; rfl
 ·rw [if_neg h0, show a.data.toList.isEmpty = false by cases h : a.data.toList; exact absurd h h0; rfl]
  obtain ⟨x, e1, e2⟩ := first_ref a ha (k + 1) (by omega)
  rw [e1, Option.bind_some, ← e2]
  by_cases hx : x < 0
  ·rw [if_neg (by omega), decide_eq_true hx]
   obtain ⟨y, e3, e4⟩ := first_ref v hv (k + 1) (by omega)
   rw [e3, Option.bind_some, ← e4]
   by_cases hy : y < 0
   ·rw [if_neg (by omega), decide_eq_true hy]
    unfold oakumref02_Clean.f
    rw [if_pos (by omega), Option.bind_some, bar_clean]
    simp only [oakumref07_Right.j0]
    cases hc : cleanL a.data.toList with
    | false => rfl
    | true =>
     have hb := bar_l0 a v ha hv a.data.toList 0 k (Pos.zero a) (by rw [data_length]; omega)
     rw [show ((0 : Nat) : Int) = 0 from rfl] at hb
     simp only [Bool.not_true, Bool.false_eq_true, if_false, Bool.false_or, Bool.not_false, Bool.true_and]
     exact hb
   ·rw [if_pos (by omega), decide_eq_false hy, hbad]; rfl
  ·rw [if_pos (by omega), decide_eq_false hx, hbad]; rfl
end Go.Proofs.YtejdmofljifkbaaGreatDoor.P
namespace Go.Proofs.YtejdmofljifkbaaGreatDoor.P
open Go.RowKit Go.Proofs.YtejdmofljifkbaaGreatDoorW.PrintWords Go.Proofs.YtejdmofljifkbaaGreatDoorW.PrintLast Go.Proofs.YtejdmofljifkbaaGreatDoorW.PrintMore
abbrev Pr := S65
def kx (x : Pr) : List UInt8 := x.f0.data.toList
def vx (x : Pr) : List UInt8 := x.f1.data.toList
theorem less_cons (a b : UInt8) (x y : List UInt8) : Op.bytesLess (a :: x) (b :: y) = (decide (a < b) || (a == b && Op.bytesLess x y)) := rfl
theorem less_irr : ∀ a : List UInt8, Op.bytesLess a a = false
 | [] => rfl
 | a :: x => by rw [less_cons, less_irr x]; simp [UInt8.lt_irrefl]
theorem less_tr : ∀ {a b c : List UInt8}, Op.bytesLess a b = true → Op.bytesLess b c = true → Op.bytesLess a c = true
 | [], [], _, h, _ => by cases h
 | _ :: _, [], _, h, _ => by cases h
 | _, _ :: _, [], _, h => by cases h
 | [], _ :: _, _ :: _, _, _ => rfl
 | a :: x, b :: y, c :: z, h1, h2 => by
  rw [less_cons] at h1 h2 ⊢
  simp only [Bool.or_eq_true, decide_eq_true_eq, Bool.and_eq_true, beq_iff_eq] at h1 h2 ⊢
  rcases h1 with h1 | ⟨rfl, h1⟩
  ·rcases h2 with h2 | ⟨rfl, h2⟩
   ·exact .inl (UInt8.lt_trans h1 h2)
   ·exact .inl h1
  ·rcases h2 with h2 | ⟨rfl, h2⟩
   ·exact .inl h2
   ·exact .inr ⟨rfl, less_tr h1 h2⟩
theorem less_tot {a b : List UInt8} (h1 : Op.bytesLess a b = false) (h2 : Op.bytesLess b a = false) : a = b := by
 have := less_total a b
 rw [h1, h2] at this
 simpa using this
def Sorted (l : List Pr) : Prop := l.Pairwise (fun x y => Op.bytesLess (kx x) (kx y) = true) ∧ ∀ x ∈ l, vx x ≠ []
def sortF : Option (List UInt8) → List Pr → Bool
 | _, [] => true
 | p, x :: t => (match p with | none => true | some q => Op.bytesLess q (kx x)) && (!(vx x).isEmpty && sortF (some (kx x)) t)
theorem sortF_some : ∀ (l : List Pr) (q : List UInt8), sortF (some q) l = true ↔ (∀ x ∈ l, Op.bytesLess q (kx x) = true) ∧ Sorted l
 | [], q => by simp [sortF, Sorted]
 | x :: t, q => by
  have ih := sortF_some t (kx x)
  unfold sortF
  simp only [Bool.and_eq_true, ih]
  unfold Sorted
  simp only [List.pairwise_cons, List.mem_cons, forall_eq_or_imp]
  constructor
  ·rintro ⟨h1, h2, h3, h4, h5⟩
   refine ⟨⟨h1, fun y hy => less_tr h1 (h3 y hy)⟩, ⟨h3, h4⟩, ?_, h5⟩
   intro e
   rw [e] at h2
   cases h2
  ·rintro ⟨⟨h1, _⟩, ⟨h3, h4⟩, h5, h6⟩
   refine ⟨h1, ?_, h3, h4, h6⟩
   cases h : vx x with
   | nil => exact absurd h h5
   | cons _ _ => rfl
theorem sortF_none (l : List Pr) : sortF none l = true ↔ Sorted l := by
 cases l with
 | nil => simp [sortF, Sorted]
 | cons x t =>
  have ih := sortF_some t (kx x)
  unfold sortF
  simp only [Bool.and_eq_true, ih, true_and]
  unfold Sorted
  simp only [List.pairwise_cons, List.mem_cons, forall_eq_or_imp]
  constructor
  ·rintro ⟨h2, h3, h4, h5⟩
   refine ⟨⟨h3, h4⟩, ?_, h5⟩
   intro e
   rw [e] at h2
   cases h2
  ·rintro ⟨⟨h3, h4⟩, h5, h6⟩
   refine ⟨?_, h3, h4, h6⟩
   cases h : vx x with
   | nil => exact absurd h h5
   | cons _ _ => rfl
theorem rd_at (l : List Pr) (i : Nat) (hi : i < l.length) : rd_T65 l (i : Int) = l[i] := by
 unfold rd_T65
 rw [Int.toNat_natCast, List.getD_eq_getElem?_getD, List.getElem?_eq_getElem hi]
 rfl
def Small (l : List Pr) (F : Nat) : Prop := l.length ≤ 2097152 ∧ ∀ x ∈ l, x.f0.size ≤ 2097152 ∧ x.f1.size ≤ 2097152 ∧ x.f0.size + 2 * x.f1.size + 100 ≤ F
def pOK (x : Pr) : Bool := pairOK (kx x) (vx x)
def overOK (l : List Pr) : Bool := l.all pOK && sortF none l
theorem over_l0 (l : List Pr) (F : Nat) (hs : Small l F) : ∀ (m : List Pr) (i k : Nat), l.drop i = m → m.length + F < k →
  over_Right.l0 k l l (l.length : Int) (i : Int) = some (m.all pOK && sortF (if i = 0 then none else some (kx (l.getD (i - 1) z65))) m)
 | [], i, k, hd, hk => by
  obtain ⟨k, rfl⟩ : ∃ j, k = j + 1 := ⟨k - 1, by omega⟩
  have : l.length ≤ i := List.drop_eq_nil_iff.1 hd
  simp only [over_Right.l0]
  rw [if_neg (by omega)]
  rfl
 | x :: m, i, k, hd, hk => by
  obtain ⟨k, rfl⟩ : ∃ j, k = j + 1 := ⟨k - 1, by omega⟩
  have hi : i < l.length := by
   have := congrArg List.length hd
   simp at this
   omega
  have h2 := List.drop_eq_getElem_cons hi
  rw [hd] at h2
  injection h2 with hx ht
  have hr := rd_at l i hi
  rw [← hx] at hr
  have hmem : x ∈ l := hx ▸ List.getElem_mem hi
  obtain ⟨s1, s2, s3⟩ := hs.2 x hmem
  have hn := hs.1
  have ih := over_l0 l F hs m (i + 1) k ht.symm (by simp only [List.length_cons] at hk; omega)
  rw [if_neg (Nat.succ_ne_zero i), Nat.add_sub_cancel, show l.getD i z65 = x by rw [List.getD_eq_getElem?_getD, List.getElem?_eq_getElem hi, ← hx]; rfl] at ih
  simp only [over_Right.l0]
  rw [if_pos (by omega), if_pos (by omega), if_pos (by omega), hr]
  rw [show (i : Int) + 1 = ((i + 1 : Nat) : Int) by omega, w64n _ (by omega), ih]
  rw [pair_prog x.f0 x.f1 s1 s2 k (by omega), Option.bind_some]
  simp only [Lib.toList_data, List.all_cons]
  rw [show pOK x = pairOK x.f0.data.toList x.f1.data.toList from rfl]
  by_cases hv : x.f1.data.toList = []
  ·rw [if_pos hv]
   unfold sortF
   rw [show (vx x).isEmpty = true by unfold vx; rw [hv]; rfl]
   simp
  ·rw [if_neg hv]
   have hve : (vx x).isEmpty = false := by
    unfold vx
    cases h : x.f1.data.toList with
    | nil => exact absurd h hv
    | cons _ _ => rfl
   cases hp : pairOK x.f0.data.toList x.f1.data.toList with
   | false => simp
   | true =>
    simp only [if_true, Bool.true_and]
    rw [show sortF (if i = 0 then none else some (kx (l.getD (i - 1) z65))) (x :: m) = ((match (if i = 0 then none else some (kx (l.getD (i - 1) z65))) with | none => true | some q => Op.bytesLess q (kx x)) && (!(vx x).isEmpty && sortF (some (kx x)) m)) from rfl, hve]
    by_cases h0 : i = 0
    ·rw [if_neg (by omega), if_pos h0]
     simp
    ·have hi1 : i - 1 < l.length := by omega
     have hr1 := rd_at l (i - 1) hi1
     rw [if_pos (by omega), if_neg h0, show (i : Int) - 1 = ((i - 1 : Nat) : Int) by omega, w64n _ (by omega), if_pos (by omega), if_pos (by omega), hr1]
     rw [show l.getD (i - 1) z65 = l[i - 1] by rw [List.getD_eq_getElem?_getD, List.getElem?_eq_getElem hi1]; rfl]
     show (if Op.bytesLess (kx l[i - 1]) (kx x) = true then _ else _) = some (m.all pOK && (Op.bytesLess (kx l[i - 1]) (kx x) && (!false && sortF (some (kx x)) m)))
     generalize Op.bytesLess (kx l[i - 1]) (kx x) = b
     cases b
     ·rw [if_neg (by simp), Bool.false_and, Bool.and_false]
     ·rw [if_pos rfl, Bool.true_and, Bool.not_false, Bool.true_and]
theorem over_prog (l : List Pr) (F : Nat) (hs : Small l F) (k : Nat) (hk : l.length + F < k) : over_Right.f k l = some (overOK l) := by
 unfold over_Right.f overOK
 have := over_l0 l F hs l 0 k rfl hk
 rw [if_pos rfl] at this
 exact this
def gtB (first : Bool) (ahead : ByteArray) (x : Pr) : Bool := first || Op.bytesLess ahead.data.toList (kx x)
def scan (first : Bool) (ahead : ByteArray) : List Pr → Bool → ByteArray → Bool × ByteArray
 | [], fd, q => (fd, q)
 | x :: t, fd, q => if (gtB first ahead x && (!fd || Op.bytesLess (kx x) q.data.toList)) = true then scan first ahead t true x.f0 else scan first ahead t fd q
theorem scan_spec (first : Bool) (ahead : ByteArray) : ∀ (l : List Pr) (fd : Bool) (q : ByteArray),
  ((scan first ahead l fd q).1 = false → fd = false ∧ ∀ x ∈ l, gtB first ahead x = false) ∧
  ((scan first ahead l fd q).1 = true → ((fd = true ∧ (scan first ahead l fd q).2 = q) ∨ ∃ x ∈ l, gtB first ahead x = true ∧ (scan first ahead l fd q).2 = x.f0) ∧
   (∀ x ∈ l, gtB first ahead x = true → Op.bytesLess (kx x) (scan first ahead l fd q).2.data.toList = false) ∧ (fd = true → Op.bytesLess q.data.toList (scan first ahead l fd q).2.data.toList = false))
 | [], fd, q => by
  refine ⟨fun h => ⟨h, by simp⟩, fun h => ⟨.inl ⟨h, rfl⟩, by simp, fun _ => less_irr _⟩⟩
 | x :: t, fd, q => by
  unfold scan
  by_cases hc : (gtB first ahead x && (!fd || Op.bytesLess (kx x) q.data.toList)) = true
  ·rw [if_pos hc]
   obtain ⟨i1, i2⟩ := scan_spec first ahead t true x.f0
   simp only [Bool.and_eq_true, Bool.or_eq_true, Bool.not_eq_true'] at hc
   obtain ⟨g, hc⟩ := hc
   refine ⟨fun h => absurd (i1 h).1 (by simp), fun h => ?_⟩
   obtain ⟨j1, j2, j3⟩ := i2 h
   have hx := j3 rfl
   refine ⟨.inr ?_, ?_, ?_⟩
   ·rcases j1 with ⟨_, e⟩ | ⟨y, hy, e1, e2⟩
    ·exact ⟨x, List.mem_cons_self .., g, e⟩
    ·exact ⟨y, List.mem_cons_of_mem _ hy, e1, e2⟩
   ·intro y hy gy
    rcases List.mem_cons.1 hy with rfl | hy
    ·exact hx
    ·exact j2 y hy gy
   ·intro hfd
    rcases hc with hc | hc
    ·rw [hfd] at hc; cases hc
    ·cases hq : Op.bytesLess q.data.toList (scan first ahead t true x.f0).2.data.toList with
     | false => rfl
     | true =>
      have := less_tr hc hq
      rw [show kx x = x.f0.data.toList from rfl] at this
      rw [this] at hx
      cases hx
  ·rw [if_neg hc]
   obtain ⟨i1, i2⟩ := scan_spec first ahead t fd q
   rw [Bool.not_eq_true, Bool.and_eq_false_iff] at hc
   refine ⟨fun h => ⟨(i1 h).1, ?_⟩, fun h => ?_⟩
   ·intro y hy
    rcases List.mem_cons.1 hy with rfl | hy
    ·rcases hc with hc | hc
     ·exact hc
     ·rw [(i1 h).1] at hc; cases hc
    ·exact (i1 h).2 y hy
   ·obtain ⟨j1, j2, j3⟩ := i2 h
    refine ⟨?_, ?_, j3⟩
    ·rcases j1 with j1 | ⟨y, hy, e1, e2⟩
     ·exact .inl j1
     ·exact .inr ⟨y, List.mem_cons_of_mem _ hy, e1, e2⟩
    ·intro y hy gy
     rcases List.mem_cons.1 hy with rfl | hy
     ·rcases hc with hc | hc
      ·rw [hc] at gy; cases gy
      ·rw [Bool.or_eq_false_iff] at hc
       obtain ⟨c1, c2⟩ := hc
       have hfd : fd = true := by simpa using c1
       have hq := j3 hfd
       cases hlt : Op.bytesLess (kx y) (scan first ahead t fd q).2.data.toList with
       | false => rfl
       | true =>
        by_cases he : kx y = q.data.toList
        ·rw [← he, hlt] at hq; cases hq
        ·have : Op.bytesLess q.data.toList (kx y) = true := by
          cases h3 : Op.bytesLess q.data.toList (kx y) with
          | true => rfl
          | false => exact absurd (less_tot c2 h3) he
         rw [less_tr this hlt] at hq; cases hq
     ·exact j2 y hy gy
def layEnd (k : Nat) (l acc : List Pr) (ahead : ByteArray) (p : Bool × ByteArray) : Option (List Pr) :=
 if p.1 = true then ((oakumref08_Last.f k l p.2).bind fun bt271 => (if bt271.2 = true then (if acc.length < 4398046511104 then (oakumref08_Lay.l0 k l (acc ++ [(⟨p.2, bt271.1⟩ : Pr)]) p.2 false) else (none)) else (oakumref08_Lay.l0 k l acc p.2 false))) else (some acc)
theorem lay_l1 (l acc : List Pr) (hl : l.length ≤ 2097152) (ahead : ByteArray) (first : Bool) : ∀ (m : List Pr) (i k : Nat) (fd : Bool) (q : ByteArray), l.drop i = m →
  oakumref08_Lay.l1 (k + m.length + 1) l acc ahead first q fd (i : Int) = layEnd k l acc ahead (scan first ahead m fd q)
 | [], i, k, fd, q, hd => by
  have : l.length ≤ i := List.drop_eq_nil_iff.1 hd
  show oakumref08_Lay.l1 (k + 1) l acc ahead first q fd (i : Int) = _
  simp only [oakumref08_Lay.l1]
  rw [if_neg (by omega)]
  rfl
 | x :: m, i, k, fd, q, hd => by
  have hi : i < l.length := by
   have := congrArg List.length hd
   simp at this
   omega
  have h2 := List.drop_eq_getElem_cons hi
  rw [hd] at h2
  injection h2 with hx ht
  have hr := rd_at l i hi
  rw [← hx] at hr
  have ih := fun fd q => lay_l1 l acc hl ahead first m (i + 1) k fd q ht.symm
  rw [show k + (x :: m).length + 1 = (k + m.length + 1) + 1 by rw [List.length_cons]; omega]
  generalize k + m.length + 1 = K at ih ⊢
  unfold scan gtB
  simp only [oakumref08_Lay.l1]
  rw [if_pos (by omega), if_pos (by omega), hr, show (i : Int) + 1 = ((i + 1 : Nat) : Int) by omega, w64n _ (by omega)]
  simp only [ih, Lib.toList_data]
  rw [show x.f0.data.toList = kx x from rfl]
  cases first with
  | true =>
   simp only [if_true, Bool.true_or, Bool.true_and]
   cases fd with
   | false => simp
   | true => simp only [if_true, Bool.not_true, Bool.false_or]; split <;> rfl
  | false =>
   simp only [Bool.false_eq_true, if_false, Bool.false_or]
   cases hg : Op.bytesLess ahead.data.toList (kx x) with
   | false => simp
   | true =>
    simp only [if_true, Bool.true_and]
    cases fd with
    | false => simp
    | true => simp only [if_true, Bool.not_true, Bool.false_or]; split <;> rfl
def lastF (q : List UInt8) : List Pr → ByteArray × Bool
 | [] => (⟨#[]⟩, false)
 | x :: t => if kx x = q then (x.f1, (vx x != [])) else lastF q t
theorem last_l0 (l : List Pr) (hl : l.length ≤ 2097152) (q : ByteArray) : ∀ (n k : Nat), n ≤ l.length → n < k → oakumref08_Last.l0 k l q ((n : Int) - 1) = some (lastF q.data.toList (l.take n).reverse)
 | 0, k, _, hk => by
  obtain ⟨k, rfl⟩ : ∃ j, k = j + 1 := ⟨k - 1, by omega⟩
  simp only [oakumref08_Last.l0]
  rw [if_neg (by omega)]
  rfl
 | n + 1, k, hn, hk => by
  obtain ⟨k, rfl⟩ : ∃ j, k = j + 1 := ⟨k - 1, by omega⟩
  have hr := rd_at l n (by omega)
  have ih := last_l0 l hl q n k (by omega) (by omega)
  simp only [oakumref08_Last.l0]
  rw [show ((n + 1 : Nat) : Int) - 1 = (n : Int) by omega, if_pos (by omega), if_pos (by omega), if_pos (by omega), hr, w64 ((n : Int) - 1) (by omega) (by omega), ih]
  have ht : (l.take (n + 1)).reverse = l[n] :: (l.take n).reverse := by
   rw [← List.take_append_getElem (by omega : n < l.length), List.reverse_append]
   rfl
  rw [ht]
  simp only [lastF, Lib.toList_data]
  rw [show l[n].f0.data.toList = kx l[n] from rfl]
  split <;> rfl
theorem last_f (l : List Pr) (hl : l.length ≤ 2097152) (q : ByteArray) (k : Nat) (hk : l.length < k) : oakumref08_Last.f k l q = some (lastF q.data.toList l.reverse) := by
 unfold oakumref08_Last.f
 rw [w64 _ (by omega) (by omega), last_l0 l hl q l.length k (Nat.le_refl _) hk, List.take_length]
theorem last_true (q : List UInt8) : ∀ l : List Pr, (lastF q l).2 = true → (lastF q l).1.data.toList ≠ []
 | [], h => by cases h
 | x :: t, h => by
  unfold lastF at h ⊢
  split
  ·rename_i e
   rw [if_pos e] at h
   simpa [vx] using h
  ·rename_i e
   rw [if_neg e] at h
   exact last_true q t h
theorem lay_round (l acc : List Pr) (hl : l.length ≤ 2097152) (ahead : ByteArray) (first : Bool) (K : Nat) :
  oakumref08_Lay.l0 (K + l.length + 1 + 1) l acc ahead first = layEnd K l acc ahead (scan first ahead l false ⟨#[]⟩) := by
 have h := lay_l1 l acc hl ahead first l 0 K false ⟨#[]⟩ rfl
 generalize K + l.length + 1 = K2 at h ⊢
 simp only [oakumref08_Lay.l0]
 exact h
theorem count_less {α : Type} (p r : α → Bool) : ∀ l : List α, (∀ x ∈ l, p x = true → r x = true) → (∃ x ∈ l, r x = true ∧ p x = false) → l.countP p < l.countP r
 | [], _, h => by obtain ⟨x, hx, _⟩ := h; cases hx
 | a :: t, h1, h2 => by
  have hle : t.countP p ≤ t.countP r := List.countP_mono_left fun x hx => h1 x (List.mem_cons_of_mem _ hx)
  rw [List.countP_cons, List.countP_cons]
  obtain ⟨x, hx, hr, hp⟩ := h2
  rcases List.mem_cons.1 hx with rfl | hx
  ·rw [hr, hp]
   simp
   omega
  ·have ih := count_less p r t (fun x hx => h1 x (List.mem_cons_of_mem _ hx)) ⟨x, hx, hr, hp⟩
   have := h1 a (List.mem_cons_self ..)
   cases hpa : p a with
   | false => simp; omega
   | true => rw [this hpa]; simp; omega
theorem less_asym {a b : List UInt8} (h : Op.bytesLess a b = true) : Op.bytesLess b a = false := by
 cases h2 : Op.bytesLess b a with
 | false => rfl
 | true =>
  have := less_tr h h2
  rw [less_irr] at this
  cases this
theorem less_le {a b c : List UInt8} (h1 : Op.bytesLess b a = false) (h2 : Op.bytesLess b c = true) : Op.bytesLess a c = true := by
 cases h3 : Op.bytesLess a b with
 | true => exact less_tr h3 h2
 | false => rw [less_tot h3 h1]; exact h2
theorem lay_ok (l : List Pr) (hl : l.length ≤ 2097152) : ∀ (m k : Nat) (acc : List Pr) (ahead : ByteArray) (first : Bool), l.countP (gtB first ahead) ≤ m → (m + 1) * (l.length + 3) + l.length + 5 ≤ k → acc.length + m ≤ 4194304 →
  Sorted acc → (∀ x ∈ acc, first = false ∧ Op.bytesLess ahead.data.toList (kx x) = false) → ∃ r, oakumref08_Lay.l0 k l acc ahead first = some r ∧ Sorted r := by
 intro m
 induction m with
 | zero =>
  intro k acc ahead first hc hk _ hs _
  obtain ⟨K, rfl⟩ : ∃ K, k = K + l.length + 1 + 1 := ⟨k - l.length - 2, by omega⟩
  rw [lay_round l acc hl]
  obtain ⟨_, s2⟩ := scan_spec first ahead l false ⟨#[]⟩
  unfold layEnd
  cases hb : (scan first ahead l false ⟨#[]⟩).1 with
  | false => exact ⟨acc, rfl, hs⟩
  | true =>
   obtain ⟨h1, _, _⟩ := s2 hb
   rcases h1 with ⟨h1, _⟩ | ⟨x, hx, hg, _⟩
   ·cases h1
   ·have := List.countP_pos_iff.2 ⟨x, hx, hg⟩
    omega
 | succ m ih =>
  intro k acc ahead first hc hk ha hs hi
  have hmul : (m + 1 + 1) * (l.length + 3) = (m + 1) * (l.length + 3) + (l.length + 3) := Nat.succ_mul _ _
  obtain ⟨K, rfl⟩ : ∃ K, k = K + l.length + 1 + 1 := ⟨k - l.length - 2, by omega⟩
  rw [lay_round l acc hl]
  obtain ⟨_, s2⟩ := scan_spec first ahead l false ⟨#[]⟩
  unfold layEnd
  cases hb : (scan first ahead l false ⟨#[]⟩).1 with
  | false => exact ⟨acc, rfl, hs⟩
  | true =>
   obtain ⟨h1, _, _⟩ := s2 hb
   rcases h1 with ⟨h1, _⟩ | ⟨x, hx, hg, hq⟩
   ·cases h1
   ·simp only [if_true]
    generalize (scan first ahead l false ⟨#[]⟩).2 = q at hq ⊢
    subst hq
    rw [last_f l hl x.f0 K (by omega), Option.bind_some]
    have hgq : first = true ∨ Op.bytesLess ahead.data.toList (kx x) = true := by
     unfold gtB at hg
     simpa using hg
    have hcnt : l.countP (gtB false x.f0) ≤ m := by
     have : l.countP (gtB false x.f0) < l.countP (gtB first ahead) := by
      refine count_less _ _ l ?_ ⟨x, hx, hg, ?_⟩
      ·intro y _ hy
       unfold gtB at hy ⊢
       simp only [Bool.false_or] at hy
       rcases hgq with h | h
       ·rw [h]; rfl
       ·rw [less_tr h hy]; simp
      ·unfold gtB
       rw [show x.f0.data.toList = kx x from rfl, less_irr]; rfl
     omega
    have hacc : ∀ y ∈ acc, Op.bytesLess (kx y) (kx x) = true := by
     intro y hy
     obtain ⟨hf, hn⟩ := hi y hy
     rcases hgq with h | h
     ·rw [hf] at h; cases h
     ·exact less_le hn h
    split
    ·rename_i hlt
     rw [if_pos (by omega)]
     refine ih K _ x.f0 false hcnt (by omega) (by rw [List.length_append]; simp; omega) ⟨?_, ?_⟩ ?_
     ·rw [List.pairwise_append]
      refine ⟨hs.1, List.pairwise_singleton _ _, ?_⟩
      intro y hy z hz
      rw [List.mem_singleton] at hz
      subst hz
      exact hacc y hy
     ·intro y hy
      rcases List.mem_append.1 hy with hy | hy
      ·exact hs.2 y hy
      ·rw [List.mem_singleton] at hy
       subst hy
       exact last_true _ _ hlt
     ·intro y hy
      refine ⟨rfl, ?_⟩
      rcases List.mem_append.1 hy with hy | hy
      ·exact less_asym (hacc y hy)
      ·rw [List.mem_singleton] at hy
       subst hy
       exact less_irr _
    ·exact ih K acc x.f0 false hcnt (by omega) (by omega) hs fun y hy => ⟨rfl, less_asym (hacc y hy)⟩
theorem keys_apart : ∀ {l : List Pr}, l.Pairwise (fun x y => Op.bytesLess (kx x) (kx y) = true) → ∀ x ∈ l, ∀ y ∈ l, kx x = kx y → x = y
 | [], _, x, hx, _, _, _ => by cases hx
 | a :: t, h, x, hx, y, hy, e => by
  rw [List.pairwise_cons] at h
  rcases List.mem_cons.1 hx with hx2 | hx2
  ·rcases List.mem_cons.1 hy with hy2 | hy2
   ·rw [hx2, hy2]
   ·have := h.1 y hy2
    rw [← hx2, e, less_irr] at this
    cases this
  ·rcases List.mem_cons.1 hy with hy2 | hy2
   ·have := h.1 x hx2
    rw [← hy2, e, less_irr] at this
    cases this
   ·exact keys_apart h.2 x hx2 y hy2 e
theorem last_at (x : Pr) : ∀ (r : List Pr), (∀ y ∈ r, kx y = kx x → y = x) → x ∈ r → lastF (kx x) r = (x.f1, (vx x != []))
 | [], _, h => by cases h
 | y :: t, h1, h2 => by
  unfold lastF
  by_cases e : kx y = kx x
  ·rw [if_pos e]
   have := h1 y (List.mem_cons_self ..) e
   rw [this]
  ·rw [if_neg e]
   rcases List.mem_cons.1 h2 with rfl | h2
   ·exact absurd rfl e
   ·exact last_at x t (fun z hz => h1 z (List.mem_cons_of_mem _ hz)) h2
theorem lay_sorted (l : List Pr) (hl : l.length ≤ 2097152) (hs : Sorted l) : ∀ (j i k : Nat) (ahead : ByteArray) (first : Bool), i + j = l.length → (j + 1) * (l.length + 3) + l.length + 5 ≤ k →
  ((i = 0 ∧ first = true) ∨ (∃ h : i - 1 < l.length, 0 < i ∧ first = false ∧ ahead = l[i - 1].f0)) → oakumref08_Lay.l0 k l (l.take i) ahead first = some l := by
 have hpw : ∀ a b (ha : a < l.length) (hb : b < l.length), a < b → Op.bytesLess (kx l[a]) (kx l[b]) = true := fun a b ha hb hab => List.pairwise_iff_getElem.1 hs.1 a b ha hb hab
 intro j
 induction j with
 | zero =>
  intro i k ahead first hi hk hst
  obtain ⟨K, rfl⟩ : ∃ K, k = K + l.length + 1 + 1 := ⟨k - l.length - 2, by omega⟩
  rw [lay_round l _ hl]
  obtain ⟨_, s2⟩ := scan_spec first ahead l false ⟨#[]⟩
  unfold layEnd
  cases hb : (scan first ahead l false ⟨#[]⟩).1 with
  | false =>
   rw [List.take_of_length_le (by omega)]
   rfl
  | true =>
   exfalso
   obtain ⟨h1, _, _⟩ := s2 hb
   rcases h1 with ⟨h1, _⟩ | ⟨x, hx, hg, _⟩
   ·cases h1
   ·obtain ⟨t, ht, rfl⟩ := List.mem_iff_getElem.1 hx
    rcases hst with ⟨h0, _⟩ | ⟨h, hpos, hf, rfl⟩
    ·omega
    ·unfold gtB at hg
     rw [hf, Bool.false_or, show l[i - 1].f0.data.toList = kx l[i - 1] from rfl] at hg
     by_cases he : t = i - 1
     ·subst he
      rw [less_irr] at hg; cases hg
     ·rw [less_asym (hpw t (i - 1) ht h (by omega))] at hg; cases hg
 | succ j ih =>
  intro i k ahead first hi hk hst
  have hmul : (j + 1 + 1) * (l.length + 3) = (j + 1) * (l.length + 3) + (l.length + 3) := Nat.succ_mul _ _
  obtain ⟨K, rfl⟩ : ∃ K, k = K + l.length + 1 + 1 := ⟨k - l.length - 2, by omega⟩
  have hil : i < l.length := by omega
  rw [lay_round l _ hl]
  obtain ⟨s1, s2⟩ := scan_spec first ahead l false ⟨#[]⟩
  have hgi : gtB first ahead l[i] = true := by
   unfold gtB
   rcases hst with ⟨_, hf⟩ | ⟨h, hpos, hf, rfl⟩
   ·rw [hf]; rfl
   ·rw [show l[i - 1].f0.data.toList = kx l[i - 1] from rfl, hpw (i - 1) i h hil (by omega)]; simp
  unfold layEnd
  cases hb : (scan first ahead l false ⟨#[]⟩).1 with
  | false =>
   have := (s1 hb).2 l[i] (List.getElem_mem hil)
   rw [hgi] at this
   cases this
  | true =>
   obtain ⟨h1, h2, _⟩ := s2 hb
   rcases h1 with ⟨h1, _⟩ | ⟨x, hx, hg, hq⟩
   ·cases h1
   ·have hmin := h2 l[i] (List.getElem_mem hil) hgi
    simp only [if_true]
    generalize (scan first ahead l false ⟨#[]⟩).2 = q at hq hmin ⊢
    subst hq
    obtain ⟨t, ht, rfl⟩ := List.mem_iff_getElem.1 hx
    have hti : t = i := by
     rcases Nat.lt_trichotomy t i with h | h | h
     ·exfalso
      rcases hst with ⟨h0, _⟩ | ⟨h', hpos, hf, rfl⟩
      ·omega
      ·unfold gtB at hg
       rw [hf, Bool.false_or, show l[i - 1].f0.data.toList = kx l[i - 1] from rfl] at hg
       by_cases he : t = i - 1
       ·subst he
        rw [less_irr] at hg; cases hg
       ·rw [less_asym (hpw t (i - 1) ht h' (by omega))] at hg; cases hg
     ·exact h
     ·exfalso
      rw [show l[t].f0.data.toList = kx l[t] from rfl, hpw i t hil ht h] at hmin
      cases hmin
    subst hti
    rw [last_f l hl _ K (by omega), Option.bind_some, show l[t].f0.data.toList = kx l[t] from rfl]
    rw [last_at l[t] l.reverse (fun y hy e => keys_apart hs.1 y (List.mem_reverse.1 hy) l[t] (List.getElem_mem ht) e) (List.mem_reverse.2 (List.getElem_mem ht))]
    have hv := hs.2 l[t] (List.getElem_mem ht)
    rw [if_pos (by simpa using hv), if_pos (by rw [List.length_take]; omega)]
    have htk : l.take t ++ [(⟨l[t].f0, l[t].f1⟩ : Pr)] = l.take (t + 1) := List.take_append_getElem ht
    rw [htk]
    exact ih (t + 1) K _ false (by omega) (by omega) (.inr ⟨by omega, by omega, rfl, rfl⟩)
def dd (x : Pr) : List UInt8 × List UInt8 := (kx x, vx x)
theorem same_l0 (r l : List Pr) (hl : l.length ≤ 2097152) (he : r.length = l.length) : ∀ (m : Nat) (i k : Nat), i + m = l.length → m < k →
  oakumref07_Same.l0 k r l (i : Int) = some (decide ((r.drop i).map dd = (l.drop i).map dd))
 | 0, i, k, hi, hk => by
  obtain ⟨k, rfl⟩ : ∃ j, k = j + 1 := ⟨k - 1, by omega⟩
  simp only [oakumref07_Same.l0]
  rw [if_neg (by omega), List.drop_eq_nil_of_le (by omega), List.drop_eq_nil_of_le (by omega)]
  rfl
 | m + 1, i, k, hi, hk => by
  obtain ⟨k, rfl⟩ : ∃ j, k = j + 1 := ⟨k - 1, by omega⟩
  have h1 : i < r.length := by omega
  have h2 : i < l.length := by omega
  have ih := same_l0 r l hl he m (i + 1) k (by omega) (by omega)
  simp only [oakumref07_Same.l0]
  rw [if_pos (by omega), if_pos (by omega), if_pos (by omega), rd_at r i h1, rd_at l i h2, show (i : Int) + 1 = ((i + 1 : Nat) : Int) by omega, w64n _ (by omega), ih]
  rw [List.drop_eq_getElem_cons h1, List.drop_eq_getElem_cons h2, List.map_cons, List.map_cons]
  simp only [Lib.toList_data]
  rw [show r[i].f0.data.toList = kx r[i] from rfl, show l[i].f0.data.toList = kx l[i] from rfl, show r[i].f1.data.toList = vx r[i] from rfl, show l[i].f1.data.toList = vx l[i] from rfl]
  by_cases e1 : kx r[i] = kx l[i]
  ·by_cases e2 : vx r[i] = vx l[i]
   ·rw [if_neg (by simp [e1, e2])]
    congr 1
    rw [decide_eq_decide]
    constructor
    ·intro h
     rw [h, show dd r[i] = dd l[i] by unfold dd; rw [e1, e2]]
    ·intro h
     injection h
   ·rw [if_pos (by simp [e2])]
    congr 1
    symm
    apply decide_eq_false
    intro h
    injection h with h _
    injection h with _ h
    exact e2 h
  ·rw [if_pos (by simp [e1])]
   congr 1
   symm
   apply decide_eq_false
   intro h
   injection h with h _
   injection h with h _
   exact e1 h
theorem same_f (r l : List Pr) (hl : l.length ≤ 2097152) (k : Nat) (hk : l.length < k) : oakumref07_Same.f k r l = some (decide (r.map dd = l.map dd)) := by
 unfold oakumref07_Same.f
 by_cases he : r.length = l.length
 ·rw [if_pos (by omega)]
  have := same_l0 r l hl he l.length 0 k (by omega) hk
  rw [List.drop_zero, List.drop_zero] at this
  exact this
 ·rw [if_neg (by omega)]
  congr 1
  symm
  apply decide_eq_false
  intro h
  have := congrArg List.length h
  simp at this
  exact he this
theorem sorted_dd (l : List Pr) : Sorted l ↔ (l.map dd).Pairwise (fun x y => Op.bytesLess x.1 y.1 = true) ∧ ∀ p ∈ l.map dd, p.2 ≠ [] := by
 unfold Sorted
 rw [List.pairwise_map, List.forall_mem_map]
 exact Iff.rfl
def rounds (l : List Pr) (F : Nat) : Nat := (l.length + 2) * (l.length + 3) + 3 * l.length + F + 20
theorem lay_f (l : List Pr) (hl : l.length ≤ 2097152) (k : Nat) : oakumref08_Lay.f k l [] = oakumref08_Lay.l0 k l [] ⟨#[]⟩ true := by
 unfold oakumref08_Lay.f
 rw [Option.bind_some, List.nil_append, if_pos (by simp; omega), Option.bind_some, if_pos (by simp; omega), List.append_nil]
theorem right_l0 (l : List Pr) (F : Nat) (hs : Small l F) : ∀ (m : List Pr) (i k : Nat), l.drop i = m → (l.length + 2) * (l.length + 3) + 2 * l.length + F + 19 + m.length ≤ k →
  oakumref08_Right.l0 k l (i : Int) = some (m.all pOK && sortF none l)
 | [], i, k, hd, hk => by
  obtain ⟨k, rfl⟩ : ∃ j, k = j + 1 := ⟨k - 1, by omega⟩
  have : l.length ≤ i := List.drop_eq_nil_iff.1 hd
  have hn := hs.1
  have hmul : (l.length + 2) * (l.length + 3) = (l.length + 1) * (l.length + 3) + (l.length + 3) := Nat.succ_mul (l.length + 1) _
  simp only [oakumref08_Right.l0]
  rw [if_neg (by omega), lay_f l hn]
  simp only [List.all_nil, Bool.true_and]
  by_cases hso : Sorted l
  ·have := lay_sorted l hn hso l.length 0 k ⟨#[]⟩ true (by omega) (by simp only [List.length_nil] at hk; omega) (.inl ⟨rfl, rfl⟩)
   rw [List.take_zero] at this
   rw [this, Option.bind_some, same_f l l hn k (by omega), (sortF_none l).2 hso, decide_eq_true rfl]
   rfl
  ·obtain ⟨r, e, hr⟩ := lay_ok l hn l.length k [] ⟨#[]⟩ true List.countP_le_length (by simp only [List.length_nil] at hk; omega) (by simp; omega) ⟨List.Pairwise.nil, by simp⟩ (by simp)
   rw [e, Option.bind_some, same_f r l hn k (by omega)]
   have hne : ¬ r.map dd = l.map dd := by
    intro h
    apply hso
    rw [sorted_dd] at hr ⊢
    rw [← h]
    exact hr
   rw [decide_eq_false hne]
   have : sortF none l = false := by
    cases h : sortF none l with
    | false => rfl
    | true => exact absurd ((sortF_none l).1 h) hso
   rw [this]
   rfl
 | x :: m, i, k, hd, hk => by
  obtain ⟨k, rfl⟩ : ∃ j, k = j + 1 := ⟨k - 1, by omega⟩
  have hi : i < l.length := by
   have := congrArg List.length hd
   simp at this
   omega
  have h2 := List.drop_eq_getElem_cons hi
  rw [hd] at h2
  injection h2 with hx ht
  have hr := rd_at l i hi
  rw [← hx] at hr
  have hmem : x ∈ l := hx ▸ List.getElem_mem hi
  obtain ⟨s1, s2, s3⟩ := hs.2 x hmem
  have hn := hs.1
  have ih := right_l0 l F hs m (i + 1) k ht.symm (by simp only [List.length_cons] at hk; omega)
  simp only [oakumref08_Right.l0]
  rw [if_pos (by omega), if_pos (by omega), hr, pair_ref x.f0 x.f1 s1 s2 k (by omega), Option.bind_some, show (i : Int) + 1 = ((i + 1 : Nat) : Int) by omega, w64n _ (by omega), ih, List.all_cons]
  rw [show pOK x = pairOK x.f0.data.toList x.f1.data.toList from rfl]
  cases pairOK x.f0.data.toList x.f1.data.toList <;> rfl
theorem over_ref (l : List Pr) (F : Nat) (hs : Small l F) (k : Nat) (hk : rounds l F ≤ k) : oakumref08_Right.f k l = some (overOK l) := by
 unfold oakumref08_Right.f overOK
 unfold rounds at hk
 exact right_l0 l F hs l 0 k rfl (by omega)
end Go.Proofs.YtejdmofljifkbaaGreatDoor.P
namespace Go.Proofs.YtejdmofljifkbaaGreatDoor.P
open Go.RowKit Go.Proofs.YtejdmofljifkbaaGreatDoorW.PrintWords Go.Proofs.YtejdmofljifkbaaGreatDoorW.PrintLast Go.Proofs.YtejdmofljifkbaaGreatDoorW.PrintMore
theorem known_wh (l : List UInt8) : decide (whI l < 0) = !knownL l := by
 unfold whI knownL
 by_cases c0 : l = kPath
 ·subst c0; decide
 by_cases c1 : l = kLink
 ·subst c1; decide
 by_cases c2 : l = kUname
 ·subst c2; decide
 by_cases c3 : l = kGname
 ·subst c3; decide
 by_cases c4 : l = kUid
 ·subst c4; decide
 by_cases c5 : l = kGid
 ·subst c5; decide
 by_cases c6 : l = kSize
 ·subst c6; decide
 by_cases c7 : l = kMtime
 ·subst c7; decide
 rw [if_neg (Ne.symm c0), if_neg (Ne.symm c1), if_neg (Ne.symm c2), if_neg (Ne.symm c3), if_neg (Ne.symm c4), if_neg (Ne.symm c5), if_neg (Ne.symm c6), if_neg (Ne.symm c7)]
 unfold kPath at c0
 unfold kLink at c1
 unfold kUname at c2
 unfold kGname at c3
 unfold kUid at c4
 unfold kGid at c5
 unfold kSize at c6
 unfold kMtime at c7
 simp [c0, c1, c2, c3, c4, c5, c6, c7]
theorem key_ok (x : Pr) : keyOK x = !knownL x.f0.toList := by
 unfold keyOK
 rw [which_is x.f0 20 (by omega), Lib.toList_data, ← known_wh]
theorem all_key (l : List Pr) : l.all keyOK = !(l.any fun p => knownL p.f0.toList) := by
 induction l with
 | nil => rfl
 | cons x t ih =>
  rw [List.all_cons, List.any_cons, ih, key_ok, Bool.not_or]
theorem extra_f (l : List Pr) (F : Nat) (hs : Small l F) (k : Nat) (hk : l.length + F < k) : item_extra.f k l = some (overOK l && l.all keyOK) := by
 have hn := hs.1
 unfold item_extra.f
 rw [if_pos (by omega), over_prog l F hs k hk, Option.bind_some, all_key]
theorem wrong_prog (a0_0 : Int) (a0_1 : ByteArray) (a0_2 : ByteArray) (a0_3 : Int) (a0_4 : Int) (a0_5 : Int) (a0_6 : Int) (a0_7 : Int) (a0_8 : Int) (a0_9 : ByteArray) (a0_10 : ByteArray) (a0_11 : Int) (a0_12 : Int) (l0_13 : List Pr) (F : Nat) (hs : Small l0_13 F) (h1 : a0_1.size ≤ 2097152) (k : Nat) (hk : l0_13.length + F + 5 < k) :
  item_Wrong.f k a0_0 a0_1 a0_2 a0_3 a0_4 a0_5 a0_6 a0_7 a0_8 a0_9 a0_10 a0_11 a0_12 l0_13 = some (firstBad (okL a0_0 a0_1 a0_2 a0_3 a0_4 a0_5 a0_6 a0_7 a0_8 a0_9 a0_10 a0_11 a0_12 (overOK l0_13 && l0_13.all keyOK)) 1) := by
 unfold item_Wrong.f
 rw [if_pos h1, extra_f l0_13 F hs k (by omega), Option.bind_some]
theorem wrong_ref (a0_0 : Int) (a0_1 : ByteArray) (a0_2 : ByteArray) (a0_3 : Int) (a0_4 : Int) (a0_5 : Int) (a0_6 : Int) (a0_7 : Int) (a0_8 : Int) (a0_9 : ByteArray) (a0_10 : ByteArray) (a0_11 : Int) (a0_12 : Int) (l0_13 : List Pr) (F : Nat) (hs : Small l0_13 F) (h1 : a0_1.size ≤ 2097152) (h2 : a0_2.size ≤ 2097152) (h9 : a0_9.size ≤ 2097152) (h10 : a0_10.size ≤ 2097152) (k : Nat) (hk : rounds l0_13 F ≤ k) :
  oakumref09_Wrong.f k a0_0 a0_1 a0_2 a0_3 a0_4 a0_5 a0_6 a0_7 a0_8 a0_9 a0_10 a0_11 a0_12 l0_13 = some (firstBad (okL a0_0 a0_1 a0_2 a0_3 a0_4 a0_5 a0_6 a0_7 a0_8 a0_9 a0_10 a0_11 a0_12 (overOK l0_13 && l0_13.all keyOK)) 1) := by
 have hn := hs.1
 unfold oakumref09_Wrong.f
 rw [if_pos ⟨by omega, by omega, by omega, by omega, by omega⟩, over_ref l0_13 F hs k hk, Option.bind_some]
end Go.Proofs.YtejdmofljifkbaaGreatDoor.P
namespace Go.Proofs.YtejdmofljifkbaaGreatDoor.P
open Go.RowKit Go.Proofs.YtejdmofljifkbaaGreatDoorW.PrintWords Go.Proofs.YtejdmofljifkbaaGreatDoorW.PrintLast Go.Proofs.YtejdmofljifkbaaGreatDoorW.PrintMore
attribute [local go_sem] max2_int min2_int max_two min_two max_three min_three max_four min_four   -- for this text's walks alone
set_option linter.unusedVariables false
set_option linter.unusedSimpArgs false
def oakumref01_Same.f (l0 : List Int) (l1 : List Int) : Option (Bool) := some ((strOfNums l0).toList == (strOfNums l1).toList)
set_option maxHeartbeats 8000000 in
set_option maxRecDepth 100000 in
theorem oakumref01_Same.calls (A0 : Option Addr) (c0 : Nat) (l0 : List Int) (A1 : Option Addr) (c1 : Nat) (l1 : List Int) (r : Bool) (w : World) (hr0 : Kd.C (Kd.int .u8) w A0 l0.length l0) (hc0 : l0.length ≤ c0) (hr1 : Kd.C (Kd.int .u8) w A1 l1.length l1) (hc1 : l1.length ≤ c1) (h : oakumref01_Same.f l0 l1 = some r) :
  Calls Tryz.prog 89 #[.slice A0 l0.length c0, .slice A1 l1.length c1] w fun e w' => e = .returned (.bool r) ∧ Drawn0 w w' := by
 have HR0 := Aside0.mk hr0
 have HC0 := Aside0.mk hc0
 clear hr0 hc0
 have HR1 := Aside0.mk hr1
 have HC1 := Aside0.mk hc1
 clear hr1 hc1
 have H : (some ((strOfNums l0).toList == (strOfNums l1).toList)) = some r := h
 clear h
 obtain rfl := Option.some.inj H
 have hcv3 := Kd.C_string (P := Tryz.prog) (A := A0) (c := c0) Tryz.underlying27 Tryz.underlying5 Tryz.underlying9 HR0.out
 have hcv4 := Kd.C_string (P := Tryz.prog) (A := A1) (c := c1) Tryz.underlying27 Tryz.underlying5 Tryz.underlying9 HR1.out
 go_enter Tryz.func89, Tryz.ntmps89
 go_wp2
 go_ret
 exact ⟨Zr, Zd⟩
end Go.Proofs.YtejdmofljifkbaaGreatDoor.P
namespace Go.Proofs.YtejdmofljifkbaaGreatDoor.P
open Go.RowKit Go.Shelf Go.Sort Go.Proofs.YtejdmofljifkbaaGreatDoorW.PrintWords Go.Proofs.YtejdmofljifkbaaGreatDoorW.PrintLast Go.Proofs.YtejdmofljifkbaaGreatDoorW.PrintMore
set_option linter.unusedVariables false
attribute [local go_sem] Oper.semAt_some
set_option maxRecDepth 100000 in
set_option maxHeartbeats 6400000 in
theorem head_self (a0 : Int) (a1 : ByteArray) (a2 : ByteArray) (a3 : Int) (a4 : Int) (a5 : Int) (a6 : Int) (a7 : Int) (a8 : Int) (a9 : ByteArray) (a10 : ByteArray) (a11 : Int) (a12 : Int) (l : List S65) (A : Option Addr) (c : Nat) (B : Option Addr) (d : Nat) (w : World) (hA : Kd.C k65 w A l.length l) (hc : l.length ≤ c) (hB : Kd.C k65 w B l.length l) (hd : l.length ≤ d) (hl : l.length ≤ 2097152) :
  Calls Tryz.prog 88 #[.agg #[.int .i64 a0, .string a1, .string a2, .int .i64 a3, .int .i64 a4, .int .i64 a5, .int .i64 a6, .int .i64 a7, .int .i64 a8, .string a9, .string a10, .int .i64 a11, .int .i64 a12, .slice A l.length c], .agg #[.int .i64 a0, .string a1, .string a2, .int .i64 a3, .int .i64 a4, .int .i64 a5, .int .i64 a6, .int .i64 a7, .int .i64 a8, .string a9, .string a10, .int .i64 a11, .int .i64 a12, .slice B l.length d]] w fun e w' => e = .returned (.bool true) ∧ Below w.heap.size w w' := by
 have hu1 := Tryz.underlying26
 have hu2 := Tryz.underlying23
 have HA := Lib.hid hA
 have HB := Lib.hid hB
 have HC := Lib.hid hc
 have HD := Lib.hid hd
 have HS := Lib.hid (show oakumref07_Same.f 3000000 l l = some true from by rw [same_f l l hl 3000000 (by omega), decide_eq_true rfl])
 have hW := ((Below.refl _ w).alloc (Nat.le_refl _) (.cells #[.int .i64 a0, .string a1, .string a2, .int .i64 a3, .int .i64 a4, .int .i64 a5, .int .i64 a6, .int .i64 a7, .int .i64 a8, .string a9, .string a10, .int .i64 a11, .int .i64 a12, .slice A l.length c] 26)).alloc (by simp) (.cells #[.int .i64 a0, .string a1, .string a2, .int .i64 a3, .int .i64 a4, .int .i64 a5, .int .i64 a6, .int .i64 a7, .int .i64 a8, .string a9, .string a10, .int .i64 a11, .int .i64 a12, .slice B l.length d] 26)
 have HW := Lib.hid hW
 clear hA hB hc hd hl hW
 go_enter Tryz.func88, Tryz.ntmps88
 go_wp2_with fail
 refine (oakumref07_Same.calls 3000000 A c l B d l true _ (Kd.C_below HA.out HW.out) HC.out (Kd.C_below HB.out HW.out) HD.out HS.out).mono ?_
 rintro e w2 ⟨rfl, n, rfl⟩
 go_wp2
 go_ret
 exact ⟨rfl, pw_below_drewN HW.out n⟩
set_option maxRecDepth 100000 in
set_option maxHeartbeats 6400000 in
theorem item_same (a0 : Int) (a1 : ByteArray) (a2 : ByteArray) (a3 : Int) (a4 : Int) (a5 : Int) (a6 : Int) (a7 : Int) (a8 : Int) (a9 : ByteArray) (a10 : ByteArray) (a11 : Int) (a12 : Int) (l : List S65) (m : List Int) (A : Option Addr) (c : Nat) (A2 : Option Addr) (c2 : Nat) (B : Option Addr) (d : Nat) (B2 : Option Addr) (d2 : Nat) (w : World) (hA : Kd.C k65 w A l.length l) (hc : l.length ≤ c) (hA2 : Kd.C (Kd.int .u8) w A2 m.length m) (hc2 : m.length ≤ c2) (hB : Kd.C k65 w B l.length l) (hd : l.length ≤ d) (hB2 : Kd.C (Kd.int .u8) w B2 m.length m) (hd2 : m.length ≤ d2) (hl : l.length ≤ 2097152) :
  Calls Tryz.prog 43 #[.agg #[.int .i64 a0, .string a1, .string a2, .int .i64 a3, .int .i64 a4, .int .i64 a5, .int .i64 a6, .int .i64 a7, .int .i64 a8, .string a9, .string a10, .int .i64 a11, .int .i64 a12, .slice A l.length c, .slice A2 m.length c2], .agg #[.int .i64 a0, .string a1, .string a2, .int .i64 a3, .int .i64 a4, .int .i64 a5, .int .i64 a6, .int .i64 a7, .int .i64 a8, .string a9, .string a10, .int .i64 a11, .int .i64 a12, .slice B l.length d, .slice B2 m.length d2]] w fun e w' => e = .returned (.bool true) ∧ Below w.heap.size w w' := by
 have hu1 := Tryz.underlying29
 have hu2 := Tryz.underlying26
 have HA2 := Lib.hid hA2
 have HB2 := Lib.hid hB2
 have HC2 := Lib.hid hc2
 have HD2 := Lib.hid hd2
 have HW := Lib.hid (((Below.refl _ w).alloc (Nat.le_refl _) (.cells #[.int .i64 a0, .string a1, .string a2, .int .i64 a3, .int .i64 a4, .int .i64 a5, .int .i64 a6, .int .i64 a7, .int .i64 a8, .string a9, .string a10, .int .i64 a11, .int .i64 a12, .slice A l.length c, .slice A2 m.length c2] 29)).alloc (by simp) (.cells #[.int .i64 a0, .string a1, .string a2, .int .i64 a3, .int .i64 a4, .int .i64 a5, .int .i64 a6, .int .i64 a7, .int .i64 a8, .string a9, .string a10, .int .i64 a11, .int .i64 a12, .slice B l.length d, .slice B2 m.length d2] 29))
 have HH := Lib.hid (fun W (hb : Below w.heap.size w W) => head_self a0 a1 a2 a3 a4 a5 a6 a7 a8 a9 a10 a11 a12 l A c B d W (Kd.C_below hA hb) hc (Kd.C_below hB hb) hd hl)
 have B0 := Lib.hid ((Below.heap_alloc (w.alloc (.cells #[.int .i64 a0, .string a1, .string a2, .int .i64 a3, .int .i64 a4, .int .i64 a5, .int .i64 a6, .int .i64 a7, .int .i64 a8, .string a9, .string a10, .int .i64 a11, .int .i64 a12, .slice A l.length c, .slice A2 m.length c2] 29)) (.cells #[.int .i64 a0, .string a1, .string a2, .int .i64 a3, .int .i64 a4, .int .i64 a5, .int .i64 a6, .int .i64 a7, .int .i64 a8, .string a9, .string a10, .int .i64 a11, .int .i64 a12, .slice B l.length d, .slice B2 m.length d2] 29) w.heap.size (by simp)).trans (heap_alloc_new w (.cells #[.int .i64 a0, .string a1, .string a2, .int .i64 a3, .int .i64 a4, .int .i64 a5, .int .i64 a6, .int .i64 a7, .int .i64 a8, .string a9, .string a10, .int .i64 a11, .int .i64 a12, .slice A l.length c, .slice A2 m.length c2] 29)))
 have b1 := heap_alloc_new (w.alloc (.cells #[.int .i64 a0, .string a1, .string a2, .int .i64 a3, .int .i64 a4, .int .i64 a5, .int .i64 a6, .int .i64 a7, .int .i64 a8, .string a9, .string a10, .int .i64 a11, .int .i64 a12, .slice A l.length c, .slice A2 m.length c2] 29)) (.cells #[.int .i64 a0, .string a1, .string a2, .int .i64 a3, .int .i64 a4, .int .i64 a5, .int .i64 a6, .int .i64 a7, .int .i64 a8, .string a9, .string a10, .int .i64 a11, .int .i64 a12, .slice B l.length d, .slice B2 m.length d2] 29)
 rw [World.size_alloc] at b1
 have B1 := Lib.hid b1
 clear hA hA2 hB hB2 hc hc2 hd hd2 hl b1
 go_enter Tryz.func43, Tryz.ntmps43
 go_wp2_with fail
 refine (HH.out _ HW.out).mono ?_
 rintro e w2 ⟨rfl, hb⟩
 have HB3 := Lib.hid (below_step HW.out hb)
 have c14 : w2.cell? ⟨w.heap.size, 14, none⟩ = some (.slice A2 m.length c2) := ((hb.cell (p := ⟨w.heap.size, 14, none⟩) (by simp; omega)).trans (cell_of_row _ _ 14 _ _ _ B0.out)).trans rfl
 have d14 : w2.cell? ⟨w.heap.size + 1, 14, none⟩ = some (.slice B2 m.length d2) := ((hb.cell (p := ⟨w.heap.size + 1, 14, none⟩) (by simp)).trans (cell_of_row _ _ 14 _ _ _ B1.out)).trans rfl
 clear hb
 go_wp2_with fail
 refine (oakumref01_Same.calls A2 c2 m B2 d2 m true _ (Kd.C_below HA2.out HB3.out) HC2.out (Kd.C_below HB2.out HB3.out) HD2.out (by unfold oakumref01_Same.f; rw [beq_self_eq_true])).mono ?_
 rintro e w3 ⟨rfl, n, rfl⟩
 go_wp2
 go_ret
 exact ⟨rfl, pw_below_drewN HB3.out n⟩
set_option maxRecDepth 100000 in
set_option maxHeartbeats 6400000 in
theorem all_same (A0 : Option Addr) (c0 : Nat) (A1 : Option Addr) (c1 : Nat) (l : List It) (w : World) (hr0 : Kd.C k29 w A0 l.length l) (hr1 : Kd.C k29 w A1 l.length l) (hl : l.length ≤ 2000000) (hx : ∀ x ∈ l, x.f0.f12.length ≤ 2097152) :
  Calls Tryz.prog 15 #[.slice A0 l.length c0, .slice A1 l.length c1] w fun e w' => e = .returned (.bool true) ∧ Below w.heap.size w w' := by
 have HR0 := Lib.hid hr0
 have HR1 := Lib.hid hr1
 have HL := Lib.hid hl
 have HX := Lib.hid hx
 clear hr0 hr1 hl hx
 go_enter Tryz.func15, Tryz.ntmps15
 go_wp2_with fail
 go_loopg [5] (l.length) (fun gk v5 wr => ∃ (x : Int), v5 = .int .i64 x ∧ Aside0 (∃ n : Nat, x = (n : Int) ∧ n + gk = l.length) ∧ Aside0 (Below w.heap.size w wr))
 case atStart => exact ⟨0, rfl, ⟨0, rfl, by omega⟩, ⟨Below.refl _ _⟩⟩
 case round =>
  obtain ⟨x, rfl, HN, HB⟩ := hrel
  obtain ⟨n, hx, hn⟩ := HN.out
  cases gk with
  | zero =>
   have hlt : decide (x < (l.length : Int)) = false := decide_eq_false (by omega)
   clear hx hn HN
   go_wp2
   go_ret
   exact ⟨rfl, HB.out⟩
  | succ k =>
   have hi : n < l.length := by omega
   have h0 : (0 : Int) ≤ x := by omega
   have h1 : x < (l.length : Int) := by omega
   have hlt : decide (x < (l.length : Int)) = true := decide_eq_true h1
   obtain ⟨ad, A13, c13, A14, c14, rfl, k0, k1, k2, k3, k4, k5, k6, k7, k8, k9, k10, k11, k12, k13, k14, e13, g13, e14, g14⟩ := at_T29 (Kd.C_below HR0.out HB.out) x h0 h1
   obtain ⟨ae, B13, d13, B14, d14, rfl, j0, j1, j2, j3, j4, j5, j6, j7, j8, j9, j10, j11, j12, j13, j14, f13, q13, f14, q14⟩ := at_T29 (Kd.C_below HR1.out HB.out) x h0 h1
   have hm : rd_T29 l x ∈ l := by
    unfold rd_T29
    rw [hx, Int.toNat_natCast, List.getD_eq_getElem?_getD, List.getElem?_eq_getElem hi]
    exact List.getElem_mem _
   have hxl := HX.out _ hm
   have hw : wrap64 (x + 1) = ((n + 1 : Nat) : Int) := by
    have := HL.out
    rw [hx, show (n : Int) + 1 = ((n + 1 : Nat) : Int) by omega, w64n _ (by omega)]
   have HW := Lib.hid hw
   have HNN := Lib.hid hn
   generalize rd_T29 l x = X at *
   have KF := Lib.hid (fun dd os => Calls.regrown_of (item_same X.f0.f0 X.f0.f1 X.f0.f2 X.f0.f3 X.f0.f4 X.f0.f5 X.f0.f6 X.f0.f7.f0 X.f0.f7.f1 X.f0.f8 X.f0.f9 X.f0.f10 X.f0.f11 X.f0.f12 X.f1 A13 c13 A14 c14 B13 d13 B14 d14 (grow (redrawn wr dd) os) (Kd.C_below g13 (below_regrown wr dd os)) e13 (Kd.C_below g14 (below_regrown wr dd os)) e14 (Kd.C_below q13 (below_regrown wr dd os)) f13 (Kd.C_below q14 (below_regrown wr dd os)) f14 hxl))
   clear e13 g13 e14 g14 f13 q13 f14 q14 hm hxl hw hx hn hi HN
   replace k0 := cell_regrown k0
   replace j0 := cell_regrown j0
   replace k1 := cell_regrown k1
   replace j1 := cell_regrown j1
   replace k2 := cell_regrown k2
   replace j2 := cell_regrown j2
   replace k3 := cell_regrown k3
   replace j3 := cell_regrown j3
   replace k4 := cell_regrown k4
   replace j4 := cell_regrown j4
   replace k5 := cell_regrown k5
   replace j5 := cell_regrown j5
   replace k6 := cell_regrown k6
   replace j6 := cell_regrown j6
   replace k7 := cell_regrown k7
   replace j7 := cell_regrown j7
   replace k8 := cell_regrown k8
   replace j8 := cell_regrown j8
   replace k9 := cell_regrown k9
   replace j9 := cell_regrown j9
   replace k10 := cell_regrown k10
   replace j10 := cell_regrown j10
   replace k11 := cell_regrown k11
   replace j11 := cell_regrown j11
   replace k12 := cell_regrown k12
   replace j12 := cell_regrown j12
   replace k13 := cell_regrown k13
   replace j13 := cell_regrown j13
   replace k14 := cell_regrown k14
   replace j14 := cell_regrown j14
   have hu1 := Tryz.underlying29
   replace h0 := eq_true h0
   replace h1 := eq_true h1
   go_wp2_with fail
   refine wp_region_quiet_below (by kernel_rfl) (by kernel_rfl) ?_
   repeat (quiet_step ((with_reducible exact KF.out _ _)))
   refine wpQuiet_nil ?_
   intro _ hw'
   obtain ⟨⟨dq, osq⟩, hw''⟩ := hw'
   subst hw''
   have HB2 := Lib.hid (below_step HB.out (below_regrown wr dq osq))
   clear k0 j0 k1 j1 k2 j2 k3 j3 k4 j4 k5 j5 k6 j6 k7 j7 k8 j8 k9 j9 k10 j10 k11 j11 k12 j12 k13 j13 k14 j14 KF
   generalize grow (redrawn wr dq) osq = w2 at *
   go_wp2
   go_roundg k
   case measure => omega
   case rel => exact ⟨_, rfl, ⟨n + 1, HW.out, by have := HNN.out; omega⟩, ⟨HB2.out⟩⟩
end Go.Proofs.YtejdmofljifkbaaGreatDoor.P
namespace Go.Proofs.YtejdmofljifkbaaGreatDoor.P
open Go.RowKit Go.Proofs.YtejdmofljifkbaaGreatDoorW.PrintWords Go.Proofs.YtejdmofljifkbaaGreatDoorW.PrintLast Go.Proofs.YtejdmofljifkbaaGreatDoorW.PrintMore
attribute [local go_sem] max2_int min2_int max_two min_two max_three min_three max_four min_four   -- for this text's walks alone
set_option linter.unusedVariables false
set_option linter.unusedSimpArgs false
def oakumlaw26_of.l0 : Nat → Int → Bool → List (S45) → Int → ByteArray → Bool → List (S88) → Int → ByteArray → Option (Bool × (List (S88)) × Int × ByteArray)
 | 0, _, _, _, _, _, _, _, _, _ => none
 | k + 1, x4, x274000, x274001, x274002, x274003, x276000, x276001, x276002, x276003 => if x4 < (x274001.length : Int) then (if 0 ≤ x4 then (if x276001.length < 5864062014805 then (oakumlaw26_of.l0 k (wrap64 (x4 + 1)) x274000 x274001 x274002 x274003 x276000 (x276001 ++ [(⟨(rd_T45 x274001 x4).f0, (rd_T45 x274001 x4).f1⟩ : S88)]) x276002 x276003) else (none)) else (none)) else (some (x276000, x276001, x276002, x276003))
def oakumlaw26_of.f (k : Nat) (a0_0 : Bool) (l0_1 : List (S45)) (a0_2 : Int) (a0_3 : ByteArray) : Option (Bool × (List (S88)) × Int × ByteArray) := oakumlaw26_of.l0 k 0 a0_0 l0_1 a0_2 a0_3 a0_0 ([] : List (S88)) a0_2 a0_3
def oakumlaw26_of.T5 : Bool × List (List Nat × List Nat) := (true, [([], []), ([0], [0]), ([], []), ([2], [2]), ([], []), ([3, 4], [3, 4]), ([5], [5]), ([6], [6]), ([1, 7], [1, 7]), ([0, 1, 2, 3, 4, 5, 6, 7, 8], []), ([9, 8, 8, 0, 1, 2, 3, 4, 5, 6, 7, 8], [8, 9])])
def oakumlaw26_of.B5 : List Nat := [0, 1, 0, 4, 0, 28, 60, 124, 255, 511, 1023]
theorem oakumlaw26_of.tab5 : rtab .any (opsOf Tryz.f18 5) = oakumlaw26_of.T5 := by kernel_rfl
theorem oakumlaw26_of.bits5 : waitsOk oakumlaw26_of.T5.2 oakumlaw26_of.B5 = true := by kernel_rfl
set_option maxHeartbeats 8000000 in
set_option maxRecDepth 100000 in
theorem oakumlaw26_of.calls (k : Nat) (a0_0 : Bool) (A0_1 : Option Addr) (c0_1 : Nat) (l0_1 : List (S45)) (a0_2 : Int) (a0_3 : ByteArray) (r1 : Bool) (r2 : List (S88)) (r3 : Int) (r4 : ByteArray) (w : World) (hr0_1 : Kd.C k45 w A0_1 l0_1.length l0_1) (hc0_1 : l0_1.length ≤ c0_1) (h : oakumlaw26_of.f k a0_0 l0_1 a0_2 a0_3 = some (r1, r2, r3, r4)) :
  Calls Tryz.prog 18 #[.agg #[.bool a0_0, .slice A0_1 l0_1.length c0_1, .int .i64 a0_2, .string a0_3]] w fun e w' => ∃ v1_ : Value, e = .returned (.agg #[.bool r1, v1_, .int .i64 r3, .string r4]) ∧ Kd.R k88 88 w' w.heap.size (fun _ => True) v1_ r2 ∧ Below w.heap.size w w' := by
 have hu43 := Tryz.underlying43
 have hu52 := Tryz.underlying52
 have hu45 := Tryz.underlying45
 have HR0_1 := Aside0.mk hr0_1
 have HC0_1 := Aside0.mk hc0_1
 clear hr0_1 hc0_1
 have HB := Aside0.mk (Below.refl w.heap.size w)
 have H : (oakumlaw26_of.l0 k 0 a0_0 l0_1 a0_2 a0_3 a0_0 ([] : List (S88)) a0_2 a0_3) = some (r1, r2, r3, r4) := h
 clear h
 have H' := Aside0.mk H
 clear H
 go_enter Tryz.func18, Tryz.ntmps18
 go_wp2_with (first | ((with_reducible refine gate_dst (N := 1) rfl ?_); refine Zbx (N := 1) (cs := #[.bool a0_0, .slice A0_1 l0_1.length c0_1, .int .i64 a0_2, .string a0_3]) (t := 43) HB ?_; intro gb273 w2 HB BK273 GE273; have GW273 := GE273) | ((with_reducible refine gate_dst (N := 2) rfl ?_); refine box_event ?hg (N := 2) ?hd (cs := #[.bool false, .slice none 0 0, .int .i64 0, .string (⟨#[]⟩ : ByteArray)]) (t := 52) ?hr ?_; (case hd => rfl); (case hg => rfl); (case hr => first | (go_simp; done) | (go_simp; rfl)); intro gb274 hg w3 hbox hb; have n0_ := Zx BK273 hb; have n1_ := Zsg HB GE273 hb; have n2_ := Aside0.mk (hbox); have n3_ := Aside0.mk ((by rw [hg]; exact (below_size (Zhg HB GE273)) : w.heap.size ≤ gb274)); have n4_ := Aside0.mk ((by rw [hg]; exact (below_size (Zhg HB GE273)) : w.heap.size ≤ gb274)); have n5_ := Aside0.mk ((by rw [hg]; exact Nat.ne_of_lt (blk_lt (g := gb273) (o := .cells #[.bool a0_0, .slice A0_1 l0_1.length c0_1, .int .i64 a0_2, .string a0_3] 43 (0, 0)) (Zw BK273)) : gb273 ≠ gb274)); have n6_ := Aside0.mk ((by rw [hg]; exact Nat.ne_of_gt (blk_lt (g := gb273) (o := .cells #[.bool a0_0, .slice A0_1 l0_1.length c0_1, .int .i64 a0_2, .string a0_3] 43 (0, 0)) (Zw BK273)) : gb274 ≠ gb273)); clear BK273; clear HB; have BK273 := n0_; have HB := n1_; have BK274 := n2_; have GW274 := n3_; have GE274 := n4_; have NB273_274 := n5_; have NB274_273 := n6_; clear n0_ n1_ n2_ n3_ n4_ n5_ n6_; clear hb hbox hg; have hnb4 := NB273_274.out; have hnc4 := NB274_273.out; have hcz5 := Zc4 BK273.out; have hfz5 := blk_frozen BK273.out) | ((with_reducible refine gate_dst (N := 3) rfl ?_); refine box_event ?hg (N := 3) ?hd (cs := #[.bool false, .slice none 0 0, .int .i64 0, .string (⟨#[]⟩ : ByteArray)]) (t := 52) ?hr ?_; (case hd => rfl); (case hg => rfl); (case hr => first | (go_simp; done) | (go_simp; rfl)); intro gb275 hg w6 hbox hb; have n0_ := Zx BK273 hb; have n1_ := Zx BK274 hb; have n2_ := Aside0.mk (below_step (by repeat (first | (with_reducible first | exact HB.out | apply below_alloc | apply pw_below_drewN | apply below_drew1 | refine below_set ?_ GE273.out | refine below_set ?_ GE274.out) | exact HB.out)) hb); have n3_ := Aside0.mk (hbox); have n4_ := Aside0.mk ((by rw [hg]; exact (below_size (by repeat (first | (with_reducible first | exact HB.out | apply below_alloc | apply pw_below_drewN | apply below_drew1 | refine below_set ?_ GE273.out | refine below_set ?_ GE274.out) | exact HB.out))) : w.heap.size ≤ gb275)); have n5_ := Aside0.mk ((by rw [hg]; exact (below_size (by repeat (first | (with_reducible first | exact HB.out | apply below_alloc | apply pw_below_drewN | apply below_drew1 | refine below_set ?_ GE273.out | refine below_set ?_ GE274.out) | exact HB.out))) : w.heap.size ≤ gb275)); have n6_ := Aside0.mk ((by rw [hg]; exact Nat.ne_of_lt (blk_lt (g := gb273) (o := .cells #[.bool a0_0, .slice A0_1 l0_1.length c0_1, .int .i64 a0_2, .string a0_3] 43 (0, 0)) (Zw BK273)) : gb273 ≠ gb275)); have n7_ := Aside0.mk ((by rw [hg]; exact Nat.ne_of_gt (blk_lt (g := gb273) (o := .cells #[.bool a0_0, .slice A0_1 l0_1.length c0_1, .int .i64 a0_2, .string a0_3] 43 (0, 0)) (Zw BK273)) : gb275 ≠ gb273)); have n8_ := Aside0.mk ((by rw [hg]; exact Nat.ne_of_lt (blk_lt (g := gb274) (o := .cells #[.bool false, .slice none 0 0, .int .i64 0, .string (⟨#[]⟩ : ByteArray)] 52 (0, 0)) (Zw BK274)) : gb274 ≠ gb275)); have n9_ := Aside0.mk ((by rw [hg]; exact Nat.ne_of_gt (blk_lt (g := gb274) (o := .cells #[.bool false, .slice none 0 0, .int .i64 0, .string (⟨#[]⟩ : ByteArray)] 52 (0, 0)) (Zw BK274)) : gb275 ≠ gb274)); clear BK273; clear BK274; clear HB; have BK273 := n0_; have BK274 := n1_; have HB := n2_; have BK275 := n3_; have GW275 := n4_; have GE275 := n5_; have NB273_275 := n6_; have NB275_273 := n7_; have NB274_275 := n8_; have NB275_274 := n9_; clear n0_ n1_ n2_ n3_ n4_ n5_ n6_ n7_ n8_ n9_; clear hb hbox hg; have hnb7 := NB275_273.out; have hnc7 := NB273_275.out; have hnb8 := NB275_274.out; have hnc8 := NB274_275.out; have hcz9 := Zc4 BK275.out; have hfz9 := blk_frozen BK275.out))
 go_loopg [4] k (fun kq v4 w' => ∃ (x4_1 : Int) (x276001_1 : List (S88)) (u276001 : Value), v4 = .int .i64 x4_1 ∧ Aside0 (oakumlaw26_of.l0 kq x4_1 a0_0 l0_1 a0_2 a0_3 a0_0 x276001_1 a0_2 a0_3 = some (r1, r2, r3, r4)) ∧ Aside0 (kq ≤ k) ∧ Aside0 (Kd.R k88 88 w' w.heap.size (fun _ => True) u276001 x276001_1) ∧ Aside0 (w'.heap[gb273]? = some (.cells #[.bool a0_0, (.slice A0_1 l0_1.length c0_1), .int .i64 a0_2, .string a0_3] 43 (0, 0))) ∧ Aside0 (w'.heap[gb274]? = some (.cells #[.bool false, (.slice none 0 0), .int .i64 0, .string (⟨#[]⟩ : ByteArray)] 52 (0, 0))) ∧ Aside0 (w'.heap[gb275]? = some (.cells #[.bool a0_0, u276001, .int .i64 a0_2, .string a0_3] 52 (0, 0))) ∧ Aside0 (Below w.heap.size w w'))
 case atStart => exact ⟨(0), (([] : List (S88))), (.slice none 0 0), Zr, H', ⟨Nat.le_refl _⟩, ⟨by first | exact Kd.R_nil _ _ _ _ _ | exact Kd.N_nil _ _ _ _ _ | exact Kd.V_nil _ _ _ _ _ | exact Kd.Q_nil _ _ _ _ _ | exact Kd.S_nil _ _ _ _ _⟩, ⟨by (with_reducible repeat (first | refine blk_drewN ?_ _ | refine blk_drew ?_ | refine blk_alloc ?_ _)); refine blk_far ?_ NB273_275.out _; (with_reducible repeat (first | refine blk_drewN ?_ _ | refine blk_drew ?_ | refine blk_alloc ?_ _)); refine blk_far ?_ NB273_275.out _; (with_reducible repeat (first | refine blk_drewN ?_ _ | refine blk_drew ?_ | refine blk_alloc ?_ _)); refine blk_far ?_ NB273_275.out _; (with_reducible repeat (first | refine blk_drewN ?_ _ | refine blk_drew ?_ | refine blk_alloc ?_ _)); refine blk_far ?_ NB273_275.out _; (with_reducible repeat (first | refine blk_drewN ?_ _ | refine blk_drew ?_ | refine blk_alloc ?_ _)); exact BK273.out⟩, ⟨by (with_reducible repeat (first | refine blk_drewN ?_ _ | refine blk_drew ?_ | refine blk_alloc ?_ _)); refine blk_far ?_ NB274_275.out _; (with_reducible repeat (first | refine blk_drewN ?_ _ | refine blk_drew ?_ | refine blk_alloc ?_ _)); refine blk_far ?_ NB274_275.out _; (with_reducible repeat (first | refine blk_drewN ?_ _ | refine blk_drew ?_ | refine blk_alloc ?_ _)); refine blk_far ?_ NB274_275.out _; (with_reducible repeat (first | refine blk_drewN ?_ _ | refine blk_drew ?_ | refine blk_alloc ?_ _)); refine blk_far ?_ NB274_275.out _; (with_reducible repeat (first | refine blk_drewN ?_ _ | refine blk_drew ?_ | refine blk_alloc ?_ _)); exact BK274.out⟩, ⟨by (with_reducible repeat (first | refine blk_drewN ?_ _ | refine blk_drew ?_ | refine blk_alloc ?_ _)); refine blk_put (cs := #[.bool a0_0, .slice none 0 0, .int .i64 a0_2, .string (⟨#[]⟩ : ByteArray)]) ?_ 3 _ rfl; (with_reducible repeat (first | refine blk_drewN ?_ _ | refine blk_drew ?_ | refine blk_alloc ?_ _)); refine blk_put (cs := #[.bool a0_0, .slice none 0 0, .int .i64 0, .string (⟨#[]⟩ : ByteArray)]) ?_ 2 _ rfl; (with_reducible repeat (first | refine blk_drewN ?_ _ | refine blk_drew ?_ | refine blk_alloc ?_ _)); refine blk_put (cs := #[.bool a0_0, .slice none 0 0, .int .i64 0, .string (⟨#[]⟩ : ByteArray)]) ?_ 1 _ rfl; (with_reducible repeat (first | refine blk_drewN ?_ _ | refine blk_drew ?_ | refine blk_alloc ?_ _)); refine blk_put (cs := #[.bool false, .slice none 0 0, .int .i64 0, .string (⟨#[]⟩ : ByteArray)]) ?_ 0 _ rfl; (with_reducible repeat (first | refine blk_drewN ?_ _ | refine blk_drew ?_ | refine blk_alloc ?_ _)); exact BK275.out⟩, ⟨by repeat (first | (with_reducible first | exact HB.out | apply below_alloc | apply pw_below_drewN | apply below_drew1 | refine below_set ?_ GE273.out | refine below_set ?_ GE274.out | refine below_set ?_ GE275.out) | exact HB.out)⟩⟩
 case round =>
  clear H'
  try clear c1
  try clear p2
  try clear c4
  try clear c7
  try clear c8
  try clear hcz5
  try clear hcz9
  try clear hfz5
  try clear hfz9
  obtain ⟨x4_1, x276001_1, u276001, rfl, HA, HK1, HO_276001, BK273, BK274, BK275, HB⟩ := hrel
  cases gk with
  | zero => exact absurd HA.out (by simp [oakumlaw26_of.l0])
  | succ k1 =>
   have H := HA.out
   clear HA
   simp only [oakumlaw26_of.l0] at H
   by_cases c10 : x4_1 < (l0_1.length : Int)
   ·rw [if_pos c10] at H
    have c10b0 : decide (x4_1 < (l0_1.length : Int)) = true := decide_eq_true c10
    clear c10
    by_cases c11 : 0 ≤ x4_1
    ·rw [if_pos c11] at H
     have c11b0 : decide (0 ≤ x4_1) = true := decide_eq_true c11
     clear c11
     by_cases c12 : x276001_1.length < 5864062014805
     ·rw [if_pos c12] at H
      have LMc12 := Aside0.mk c12
      clear c12
      obtain ⟨y277, hy277⟩ : ∃ y_ : List (S88), y_ = (x276001_1 ++ [(⟨(rd_T45 l0_1 x4_1).f0, (rd_T45 l0_1 x4_1).f1⟩ : S88)]) := ⟨_, rfl⟩
      replace H : (oakumlaw26_of.l0 k1 (wrap64 (x4_1 + 1)) a0_0 l0_1 a0_2 a0_3 a0_0 y277 a0_2 a0_3) = some (r1, r2, r3, r4) := by first | (rw [hy277]; with_reducible exact H) | (have H2_ := (Option.bind_some _ _).symm.trans H; rw [hy277]; with_reducible exact H2_) | (have H2_ := (Option.bind_some _ _).symm.trans H; with_reducible exact H2_) | with_reducible exact H | (rw [hy277]; exact H) | exact H
      have Ny277 := Aside0.mk hy277
      clear hy277
      have H' := Aside0.mk H
      clear H
      have hnb13 := NB273_274.out
      have hnc13 := NB274_273.out
      have hnb14 := NB273_275.out
      have hnc14 := NB275_273.out
      have hcz15 := Zc4 BK273.out
      have hfz15 := blk_frozen BK273.out
      try go_wp2
      replace HO_276001 := Aside0.mk (Kd.R_drew HO_276001.out)
      replace BK273 := Aside0.mk (blk_drew BK273.out)
      replace BK274 := Aside0.mk (blk_drew BK274.out)
      replace BK275 := Aside0.mk (blk_drew BK275.out)
      replace HB := Aside0.mk (below_drew1 HB.out)
      have p276 : 0 ≤ (x4_1 : Int) := of_decide_eq_true Zy
      have q276 : x4_1 < (l0_1.length : Int) := of_decide_eq_true Zy
      obtain ⟨ad276, e276, hx276_0, hx276_1⟩ := at_T45 HR0_1.out x4_1 p276 q276
      have hw276_1 := hx276_1
      have hw276_0 := hx276_0
      cases e276
      replace hx276_0 := (HB.out.cell (World.block_lt_of_cell? w _ hx276_0)).trans hx276_0
      replace hx276_1 := (HB.out.cell (World.block_lt_of_cell? w _ hx276_1)).trans hx276_1
      replace p276 := eq_true p276
      replace q276 := eq_true q276
      refine start_ (n := 11) (S := fun w' => w'.cell? ⟨gb275, 0, none⟩ = some (.bool a0_0) ∧ w'.cell? ⟨gb275, 1, none⟩ = some (u276001) ∧ w'.cell? ⟨gb275, 2, none⟩ = some (.int .i64 a0_2) ∧ w'.cell? ⟨gb275, 3, none⟩ = some (.string a0_3) ∧ w'.cell? ⟨gb273, 0, none⟩ = some (.bool a0_0) ∧ w'.cell? ⟨gb273, 1, none⟩ = some (.slice (some ad276) l0_1.length c0_1) ∧ w'.cell? ⟨gb273, 2, none⟩ = some (.int .i64 a0_2) ∧ w'.cell? ⟨gb273, 3, none⟩ = some (.string a0_3) ∧ w'.cell? (ad276.add ((x4_1).toNat * 2)) = some (.bool ((rd_T45 l0_1 x4_1).f0)) ∧ w'.cell? ⟨(ad276.add ((x4_1).toNat * 2)).block, (ad276.add ((x4_1).toNat * 2)).off + 1, none⟩ = some (.string ((rd_T45 l0_1 x4_1).f1))) (ds := [10]) #[false, false, false, false, false, false, false, false, false, false, false] (by kernel_rfl) rfl rfl ⟨(blk_cell BK275.out 0).trans rfl, (blk_cell BK275.out 1).trans rfl, (blk_cell BK275.out 2).trans rfl, (blk_cell BK275.out 3).trans rfl, (blk_cell BK273.out 0).trans rfl, (blk_cell BK273.out 1).trans rfl, (blk_cell BK273.out 2).trans rfl, (blk_cell BK273.out 3).trans rfl, ((HB.out.cell (World.block_lt_of_cell? w _ hw276_0)).trans hw276_0), ((HB.out.cell (World.block_lt_of_cell? w _ hw276_1)).trans hw276_1)⟩ (fun hHeld => ?_); refine with_tabW oakumlaw26_of.tab5 oakumlaw26_of.bits5 (fun HT_ HW_ => ?_)
      generalize wr.drew = w16 at HO_276001 BK273 BK274 BK275 HB hx276_0 hx276_1 hHeld ⊢
      refine Zp 0 19 (Zb 11 1) HT_ ?_
      refine Zp 2 21 (Zb 11 5) HT_ ?_
      refine Zp 4 23 (Zb 11 21) HT_ ?_
      refine Zt 1 20 (Zb 11 23) HT_ HW_ hHeld ?_
      refine Zt 3 22 (Zb 11 31) HT_ HW_ hHeld ?_
      refine Zp 5 24 (Zb 11 63) HT_ ?_
      refine Zt 6 25 (Zb 11 127) HT_ HW_ hHeld ?_
      refine Zo 7 26 (Zb 11 255) HT_ fun K hK => ?_
      refine value_ (w1 := ?_) (v := ?_) (by rfl) rfl ?_ ?_
      rotate_left 2
      ·go_simp
       constructor
       ·rfl
       ·rfl
      refine hK.out _ _ ⟨(blk_cell (blk_alloc BK275.out _) 0).trans rfl, (blk_cell (blk_alloc BK275.out _) 1).trans rfl, (blk_cell (blk_alloc BK275.out _) 2).trans rfl, (blk_cell (blk_alloc BK275.out _) 3).trans rfl, (blk_cell (blk_alloc BK273.out _) 0).trans rfl, (blk_cell (blk_alloc BK273.out _) 1).trans rfl, (blk_cell (blk_alloc BK273.out _) 2).trans rfl, (blk_cell (blk_alloc BK273.out _) 3).trans rfl, (World.cell?_alloc_lt _ _ _ (World.block_lt_of_cell? _ _ (((HB.out.cell (World.block_lt_of_cell? w _ hw276_0)).trans hw276_0)))).trans (((HB.out.cell (World.block_lt_of_cell? w _ hw276_0)).trans hw276_0)), (World.cell?_alloc_lt _ _ _ (World.block_lt_of_cell? _ _ (((HB.out.cell (World.block_lt_of_cell? w _ hw276_1)).trans hw276_1)))).trans (((HB.out.cell (World.block_lt_of_cell? w _ hw276_1)).trans hw276_1))⟩ (fun hHeld => ?_)
      clear hK K
      refine Zn ?_
      refine Zo 8 27 (Zb 11 511) HT_ fun K hK => ?_
      refine Kd.R_append_step k88 (w0 := w) w.heap.size (by rfl) (.tmp 20) (.tmp 26) 50 88 (.agg #[(.bool false), (.string ⟨#[]⟩)]) 24 rfl Tryz.underlying50 info88 rfl (by decide) (by omega) u276001 x276001_1 (⟨(rd_T45 l0_1 x4_1).f0, (rd_T45 l0_1 x4_1).f1⟩ : S88) [.bool ((rd_T45 l0_1 x4_1).f0), .string ((rd_T45 l0_1 x4_1).f1)] (fun _ => True) (fun _ => False) rfl rfl ?aP (fun _ hk => hk.elim) ?aF ?aO ?aB ?aS ?aL ?_
      (case aP => exact k88_mkM _ _ _ (⟨(rd_T45 l0_1 x4_1).f0, (rd_T45 l0_1 x4_1).f1⟩ : S88))
      (case aB => exact (by repeat (first | (with_reducible first | exact HB.out | apply below_alloc | apply pw_below_drewN | apply below_drew1 | refine below_set ?_ GE273.out | refine below_set ?_ GE274.out | refine below_set ?_ GE275.out) | exact HB.out)))
      (case aF => exact (fun _ _ => trivial))
      (case aO => exact (by (with_reducible repeat (first | apply Kd.R_alloc | apply Kd.R_drewN | apply Kd.R_drew)); exact HO_276001.out))
      (case aS => exact (below_size (by repeat (first | (with_reducible first | exact HB.out | apply below_alloc | apply pw_below_drewN | apply below_drew1 | refine below_set ?_ GE273.out | refine below_set ?_ GE274.out | refine below_set ?_ GE275.out) | exact HB.out))))
      (case aL => have := LMc12.out; omega)
      intro v278 w17 ho hb hg hat
      rw [← Ny277.out] at ho
      replace BK273 := Aside0.mk (blk_grown (g := gb273) (o := .cells #[.bool a0_0, .slice (some ad276) l0_1.length c0_1, .int .i64 a0_2, .string a0_3] 43 (0, 0)) (Zw BK273) hg (Kd.R_ne HO_276001.out BK273.out (by decide)))
      replace BK274 := Aside0.mk (blk_grown (g := gb274) (o := .cells #[.bool false, .slice none 0 0, .int .i64 0, .string (⟨#[]⟩ : ByteArray)] 52 (0, 0)) (Zw BK274) hg (Kd.R_ne HO_276001.out BK274.out (by decide)))
      replace BK275 := Aside0.mk (blk_grown (g := gb275) (o := .cells #[.bool a0_0, u276001, .int .i64 a0_2, .string a0_3] 52 (0, 0)) (Zw BK275) hg (Kd.R_ne HO_276001.out BK275.out (by decide)))
      replace HB := Aside0.mk (hb)
      have HO279 := Aside0.mk (ho)
      clear ho hb hg hat
      obtain ⟨Ao18, co18, eo18⟩ := Kd.R_slice HO279.out
      (first | subst eo18 | (injection eo18 with f1_ f2_ f3_; have f4_ := f1_.symm; have f5_ := f3_.symm; clear f1_ f2_ f3_; subst f4_; subst f5_))
      refine hK.out _ _ ⟨(blk_cell BK275.out 0).trans rfl, (blk_cell BK275.out 1).trans rfl, (blk_cell BK275.out 2).trans rfl, (blk_cell BK275.out 3).trans rfl, (blk_cell BK273.out 0).trans rfl, (blk_cell BK273.out 1).trans rfl, (blk_cell BK273.out 2).trans rfl, (blk_cell BK273.out 3).trans rfl, ((HB.out.cell (World.block_lt_of_cell? w _ hw276_0)).trans hw276_0), ((HB.out.cell (World.block_lt_of_cell? w _ hw276_1)).trans hw276_1)⟩ (fun hHeld => ?_)
      clear hK K
      refine Zn ?_
      refine Zp 9 28 (Zb 11 1023) HT_ ?_
      refine last_ (i := 10) (N := none) #[true, true, true, true, true, true, true, true, true, true, true] rfl rfl (one_of HT_.out (by kernel_rfl)) (by decide) (fun K hK => ?_)
      have hs19 : w17.cell? ⟨gb275, 1, none⟩ = some (u276001) := (blk_cell BK275.out 1).trans rfl
      have hfs19 := blk_frozen BK275.out 1
      have hns19_0 := NB273_275.out
      have hns19_1 := NB274_275.out
      have hms19_0 := NB275_273.out
      have hms19_1 := NB275_274.out
      refine skip_ (w1 := ?_) (by rfl) rfl ?_ ?_
      rotate_left
      ·go_simp
       rfl
      refine hK.out _ _ ?_
      clear hK K
      refine Zq HT_ ?_
      try go_wp2
      go_roundg k1
      case measure => have := HK1.out; omega
      case rel => exact ⟨(wrap64 (x4_1 + 1)), (y277), (.slice Ao18 y277.length co18), Zr, H', ⟨by have := HK1.out; omega⟩, ⟨by (with_reducible repeat (first | apply Kd.R_alloc | apply Kd.R_drewN | apply Kd.R_drew)); exact Kd.R_mono (Kd.R_far (p := ⟨gb275, 1, none⟩) (Kd.R_types HO279.out BK275.out (by decide)) (fun _ hk => hk.2) (.slice Ao18 y277.length co18)) (fun _ hk => trivial)⟩, ⟨by (with_reducible repeat (first | refine blk_drewN ?_ _ | refine blk_drew ?_ | refine blk_alloc ?_ _)); refine blk_far ?_ NB273_275.out _; (with_reducible repeat (first | refine blk_drewN ?_ _ | refine blk_drew ?_ | refine blk_alloc ?_ _)); exact BK273.out⟩, ⟨by (with_reducible repeat (first | refine blk_drewN ?_ _ | refine blk_drew ?_ | refine blk_alloc ?_ _)); refine blk_far ?_ NB274_275.out _; (with_reducible repeat (first | refine blk_drewN ?_ _ | refine blk_drew ?_ | refine blk_alloc ?_ _)); exact BK274.out⟩, ⟨by (with_reducible repeat (first | refine blk_drewN ?_ _ | refine blk_drew ?_ | refine blk_alloc ?_ _)); refine blk_put (cs := #[.bool a0_0, u276001, .int .i64 a0_2, .string a0_3]) ?_ 1 _ rfl; (with_reducible repeat (first | refine blk_drewN ?_ _ | refine blk_drew ?_ | refine blk_alloc ?_ _)); exact BK275.out⟩, ⟨by repeat (first | (with_reducible first | exact HB.out | apply below_alloc | apply pw_below_drewN | apply below_drew1 | refine below_set ?_ GE273.out | refine below_set ?_ GE274.out | refine below_set ?_ GE275.out) | exact HB.out)⟩⟩
     ·rw [if_neg c12] at H
      exact absurd H (by simp)
    ·rw [if_neg c11] at H
     exact absurd H (by simp)
   ·rw [if_neg c10] at H
    have c10b0 : decide (x4_1 < (l0_1.length : Int)) = false := decide_eq_false c10
    clear c10
    simp only [Option.some.injEq, Prod.mk.injEq] at H
    obtain ⟨rfl, rfl, rfl, rfl⟩ := H
    have hnb20 := NB273_274.out
    have hnc20 := NB274_273.out
    have hnb21 := NB273_275.out
    have hnc21 := NB275_273.out
    have hcz22 := Zc4 BK273.out
    have hfz22 := blk_frozen BK273.out
    have hnb23 := NB275_274.out
    have hnc23 := NB274_275.out
    have hcz24 := Zc4 BK275.out
    have hfz24 := blk_frozen BK275.out
    have hcz25 := Zc4 BK274.out
    have hfz25 := blk_frozen BK274.out
    obtain ⟨Ao26, co26, eo26⟩ := Kd.R_slice HO_276001.out
    subst eo26
    go_wp2
    refine bodyPost_ret (results_cell_row rfl _ _ gb274 52 #[.bool a0_0, .slice Ao26 x276001_1.length co26, .int .i64 a0_2, .string a0_3] (0, 0) _ rfl (by (with_reducible repeat (first | refine blk_drewN ?_ _ | refine blk_drew ?_ | refine blk_alloc ?_ _)); refine blk_put (cs := #[.bool a0_0, .slice Ao26 x276001_1.length co26, .int .i64 a0_2, .string (⟨#[]⟩ : ByteArray)]) ?_ 3 _ rfl; (with_reducible repeat (first | refine blk_drewN ?_ _ | refine blk_drew ?_ | refine blk_alloc ?_ _)); refine blk_put (cs := #[.bool a0_0, .slice Ao26 x276001_1.length co26, .int .i64 0, .string (⟨#[]⟩ : ByteArray)]) ?_ 2 _ rfl; (with_reducible repeat (first | refine blk_drewN ?_ _ | refine blk_drew ?_ | refine blk_alloc ?_ _)); refine blk_put (cs := #[.bool a0_0, .slice none 0 0, .int .i64 0, .string (⟨#[]⟩ : ByteArray)]) ?_ 1 _ rfl; (with_reducible repeat (first | refine blk_drewN ?_ _ | refine blk_drew ?_ | refine blk_alloc ?_ _)); refine blk_put (cs := #[.bool false, .slice none 0 0, .int .i64 0, .string (⟨#[]⟩ : ByteArray)]) ?_ 0 _ rfl; (with_reducible repeat (first | refine blk_drewN ?_ _ | refine blk_drew ?_ | refine blk_alloc ?_ _)); exact BK274.out) Tryz.underlying52 rfl (by kernel_rfl)) rfl ?_
    exact ⟨_, Ze, by (with_reducible repeat (first | apply Kd.R_alloc | apply Kd.R_drewN | apply Kd.R_drew)); exact Kd.R_mono (Kd.R_far (p := ⟨gb274, 3, none⟩) (Kd.R_far (p := ⟨gb274, 2, none⟩) (Kd.R_far (p := ⟨gb274, 1, none⟩) (Kd.R_far (p := ⟨gb274, 0, none⟩) (Kd.R_types HO_276001.out BK274.out (by decide)) (fun _ hk => hk.2) (.bool a0_0)) (fun _ hk => hk.2) (.slice Ao26 x276001_1.length co26)) (fun _ hk => hk.2) (.int .i64 a0_2)) (fun _ hk => hk.2) (.string a0_3)) (fun _ hk => trivial), by repeat (first | (with_reducible first | exact HB.out | apply below_alloc | apply pw_below_drewN | apply below_drew1 | refine below_set ?_ GE273.out | refine below_set ?_ GE274.out | refine below_set ?_ GE275.out) | exact HB.out)⟩
end Go.Proofs.YtejdmofljifkbaaGreatDoor.P
namespace Go.Proofs.YtejdmofljifkbaaGreatDoor.P
open Go.RowKit Go.Shelf Go.Proofs.YtejdmofljifkbaaGreatDoorW.PrintWords Go.Proofs.YtejdmofljifkbaaGreatDoorW.PrintLast Go.Proofs.YtejdmofljifkbaaGreatDoorW.PrintMore
set_option linter.unusedVariables false
def toR (r : Ru) : Rr := ⟨r.f0, r.f1⟩
theorem suffix_slash (s : ByteArray) : Lib.hasSuffix s.data.toList [47] = slashL s := by
 unfold Lib.hasSuffix slashL
 generalize s.data.toList = l
 rw [Bool.eq_iff_iff, List.isSuffixOf_iff_suffix]
 constructor
 ·rintro ⟨t, rfl⟩
  simp
 ·intro h
  have h2 : l.getLast? = some 47 := by simpa using h
  obtain ⟨t, rfl⟩ := List.getLast?_eq_some_iff.1 h2
  exact ⟨t, rfl⟩
theorem zero_clean (l : List UInt8) : zeroL l = !cleanL l := by
 unfold zeroL
 induction l with
 | nil => rfl
 | cons c t ih =>
  have e2 : cleanL (c :: t) = ((c != 0) && cleanL t) := rfl
  rw [List.any_cons, ih, e2, Bool.not_and]
  cases h : (c == 0) <;> simp [bne, h]
theorem right_same (rs : List Ru) (st : Int) (px : ByteArray) : rightR (rs.map toR) st px = rightP rs st px := by
 unfold rightR rightP
 rw [suffix_slash]
 have h1 : (rs.map toR).all okR = !(rs.any badR) := by
  induction rs with
  | nil => rfl
  | cons r t ih =>
   rw [List.map_cons, List.all_cons, ih, List.any_cons]
   unfold okR badR toR
   cases Gl.rightB r.f1 <;> rfl
 have h2 : decide (0 ≤ Lib.indexByte px.data.toList 0) = zeroL px.data.toList := by
  rw [zero_clean, ← index_clean]
  by_cases h : Lib.indexByte px.data.toList 0 < 0
  ·rw [decide_eq_true h, decide_eq_false (by omega)]; rfl
  ·rw [decide_eq_false h, decide_eq_true (by omega)]; rfl
 have h3 : decide (st < 0) = !decide (0 ≤ st) := by
  by_cases h : st < 0
  ·rw [decide_eq_true h, decide_eq_false (by omega)]; rfl
  ·rw [decide_eq_false h, decide_eq_true (by omega)]; rfl
 have h4 : decide (1000 < px.size) = !decide (px.size ≤ 1000) := by
  by_cases h : px.size ≤ 1000
  ·rw [decide_eq_true h, decide_eq_false (by omega)]; rfl
  ·rw [decide_eq_false h, decide_eq_true (by omega)]; rfl
 rw [h1, h2, h3, h4]
 cases (rs.any badR) <;> cases zeroL px.data.toList <;> cases decide (0 ≤ st) <;> cases decide (px.size ≤ 1000) <;> cases slashL px <;> rfl
theorem taken_same (all : Bool) (rs : List Ru) (name : ByteArray) (h : ∀ r ∈ rs, Gl.rightB r.f1 = true) : (rs.map toR).foldl (takeR name) all = takenL all rs name := by
 rw [List.foldl_map, List.foldl_eq_foldr_reverse]
 unfold takenL
 have h2 : ∀ r ∈ rs.reverse, Gl.rightB r.f1 = true := fun r hr => h r (by simpa using hr)
 generalize rs.reverse = m at h2 ⊢
 induction m with
 | nil => rfl
 | cons r t ih =>
  rw [List.foldr_cons, ih (fun x hx => h2 x (List.mem_cons_of_mem _ hx)), List.find?_cons]
  have hr := h2 r List.mem_cons_self
  unfold takeR mR toR
  rw [hr]
  cases hm : Gl.matB r.f1 name <;> simp
theorem rule_right {rs : List Ru} {st : Int} {px : ByteArray} (h : rightP rs st px = true) : px.size ≤ 1000 ∧ ∀ r ∈ rs, Gl.rightB r.f1 = true := by
 rw [← right_same] at h
 unfold rightR at h
 simp only [Bool.and_eq_true, decide_eq_true_eq] at h
 refine ⟨h.2.2.2.1, fun r hr => ?_⟩
 exact (List.all_eq_true.1 h.1) (toR r) (List.mem_map_of_mem hr)
theorem of_l0 (all : Bool) (rs : List Ru) (st : Int) (px : ByteArray) (hl : rs.length ≤ 1000000) : ∀ (m n k : Nat), n + m = rs.length → m < k →
  oakumlaw26_of.l0 k (n : Int) all rs st px all ((rs.take n).map toR) st px = some (all, rs.map toR, st, px)
 | 0, n, k, hn, hk => by
  obtain ⟨k, rfl⟩ : ∃ q, k = q + 1 := ⟨k - 1, by omega⟩
  rw [oakumlaw26_of.l0, if_neg (by omega), List.take_of_length_le (by omega)]
 | m + 1, n, k, hn, hk => by
  obtain ⟨k, rfl⟩ : ∃ q, k = q + 1 := ⟨k - 1, by omega⟩
  have hi : n < rs.length := by omega
  have hw : wrap64 ((n : Int) + 1) = ((n + 1 : Nat) : Int) := by
   rw [show (n : Int) + 1 = ((n + 1 : Nat) : Int) by omega, w64n _ (by omega)]
  rw [oakumlaw26_of.l0, if_pos (by omega), if_pos (by omega), if_pos (by simp only [List.length_map, List.length_take]; omega), hw]
  have hget : (rs.take n).map toR ++ [(⟨(rd_T45 rs (n : Int)).f0, (rd_T45 rs (n : Int)).f1⟩ : Rr)] = (rs.take (n + 1)).map toR := by
   rw [List.take_succ_eq_append_getElem hi, List.map_append]
   congr 1
   unfold rd_T45
   rw [Int.toNat_natCast, List.getD_eq_getElem?_getD, List.getElem?_eq_getElem hi]
   rfl
  rw [hget]
  exact of_l0 all rs st px hl m (n + 1) k (by omega) (by omega)
theorem of_f (all : Bool) (rs : List Ru) (st : Int) (px : ByteArray) (hl : rs.length ≤ 1000000) (k : Nat) (hk : rs.length < k) : oakumlaw26_of.f k all rs st px = some (all, rs.map toR, st, px) :=
 of_l0 all rs st px hl rs.length 0 k (by omega) hk
structure Fit (x : It) : Prop where
 s1 : x.f0.f1.size ≤ 2097152
 s2 : x.f0.f2.size ≤ 2097152
 s9 : x.f0.f8.size ≤ 2097152
 s10 : x.f0.f9.size ≤ 2097152
 hl : x.f0.f12.length ≤ 1048576
 hd : x.f1.length ≤ 1048576
 hp : ∀ p ∈ x.f0.f12, p.f0.size ≤ 1048576 ∧ p.f1.size ≤ 1048576
theorem Fit.small {x : It} (h : Fit x) : Small x.f0.f12 4000000 := ⟨by have := h.hl; omega, fun y hy => by obtain ⟨p1, p2⟩ := h.hp y hy; exact ⟨by omega, by omega, by omega⟩⟩
def oksL (x : It) : List Bool := okL x.f0.f0 x.f0.f1 x.f0.f2 x.f0.f3 x.f0.f4 x.f0.f5 x.f0.f6 x.f0.f7.f0 x.f0.f7.f1 x.f0.f8 x.f0.f9 x.f0.f10 x.f0.f11 (overOK x.f0.f12 && x.f0.f12.all keyOK)
def rightI (x : It) : Bool := decide (firstBad (oksL x) 1 = 0) && (x.f0.f6 == (x.f1.length : Int))
theorem rounds_le {x : It} (h : Fit x) : rounds x.f0.f12 4000000 ≤ 2000000000000 := by
 have h1 := h.hl
 unfold rounds
 generalize x.f0.f12.length = n at h1
 have h2 : (n + 2) * (n + 3) ≤ (1048576 + 2) * (1048576 + 3) := Nat.mul_le_mul (by omega) (by omega)
 omega
theorem itR_fit {x : It} (h : Fit x) (K : Nat) (hK : 2000000000000 ≤ K) : itR K x = some (rightI x) := by
 unfold itR item_Right.f rightI oksL
 rw [wrong_prog _ _ _ _ _ _ _ _ _ _ _ _ _ _ 4000000 h.small h.s1 K (by have := h.hl; omega), Option.bind_some]
 by_cases c : firstBad (okL x.f0.f0 x.f0.f1 x.f0.f2 x.f0.f3 x.f0.f4 x.f0.f5 x.f0.f6 x.f0.f7.f0 x.f0.f7.f1 x.f0.f8 x.f0.f9 x.f0.f10 x.f0.f11 (overOK x.f0.f12 && x.f0.f12.all keyOK)) 1 = 0
 ·rw [if_pos c, decide_eq_true c, Bool.true_and]
 ·rw [if_neg c, decide_eq_false c, Bool.false_and]
theorem itQ_fit {x : It} (h : Fit x) (K : Nat) (hK : 2000000000000 ≤ K) : itQ K x = some (rightI x) := by
 unfold itQ oakumref09_Right.f rightI oksL
 rw [wrong_ref _ _ _ _ _ _ _ _ _ _ _ _ _ _ 4000000 h.small h.s1 h.s2 h.s9 h.s10 K (Nat.le_trans (rounds_le h) hK), Option.bind_some]
 by_cases c : firstBad (okL x.f0.f0 x.f0.f1 x.f0.f2 x.f0.f3 x.f0.f4 x.f0.f5 x.f0.f6 x.f0.f7.f0 x.f0.f7.f1 x.f0.f8 x.f0.f9 x.f0.f10 x.f0.f11 (overOK x.f0.f12 && x.f0.f12.all keyOK)) 1 = 0
 ·rw [if_pos c, decide_eq_true c, Bool.true_and]
 ·rw [if_neg c, decide_eq_false c, Bool.false_and]
theorem bad_ge : ∀ (l : List Bool) (n : Int) (m : Nat), 1 ≤ m → firstBad l m = 0 → ∀ b ∈ l, b = true
 | [], _, _, _, _, b, hb => by cases hb
 | c :: t, n, m, hm, h, b, hb => by
  unfold firstBad at h
  cases c with
  | false => simp at h; omega
  | true =>
   rw [if_pos rfl] at h
   rcases List.mem_cons.1 hb with rfl | hb
   ·rfl
   ·exact bad_ge t n (m + 1) (by omega) h b hb
def s0 (x : It) : Nat := x.f0.f2.size
theorem name_size {s : ByteArray} (h : nameL s = true) : s.size ≤ 65536 := by
 unfold nameL at h
 simp only [Bool.and_eq_true, decide_eq_true_eq] at h
 exact h.2.1
theorem right_sizes {x : It} (h : rightI x = true) : x.f0.f1.size ≤ 65536 ∧ x.f0.f2.size ≤ 65536 := by
 unfold rightI at h
 simp only [Bool.and_eq_true, decide_eq_true_eq] at h
 have hall := bad_ge (oksL x) 0 1 (Nat.le_refl _) h.1
 constructor
 ·have := hall (nameL x.f0.f1 && !((x.f0.f0 == 1) && slashL x.f0.f1)) (by unfold oksL okL; simp)
  simp only [Bool.and_eq_true] at this
  exact name_size this.1
 ·have := hall (((x.f0.f0 == 2) || (x.f0.f0 == 3)) && nameL x.f0.f2 || (!((x.f0.f0 == 2) || (x.f0.f0 == 3)) && x.f0.f2.toList.isEmpty)) (by unfold oksL okL; simp)
  rw [Bool.or_eq_true] at this
  rcases this with h2 | h2
  ·simp only [Bool.and_eq_true] at h2
   exact name_size h2.2
  ·simp only [Bool.and_eq_true] at h2
   have h3 := h2.2
   rw [Lib.toList_data] at h3
   have h4 : s0 x = 0 := by
    unfold s0
    rw [← data_length]
    exact List.length_eq_zero_iff.2 (List.isEmpty_iff.1 h3)
   unfold s0 at h4
   omega
theorem nam_size (st : Int) (px s : ByteArray) (hs : s.size ≤ 65536) (hpx : px.size ≤ 1000) : (namL st px s).size ≤ 1100000 := by
 have hp : ∀ z : ByteArray, z.size ≤ 1000001 → (preL px z).size ≤ 1100000 := by
  intro z hz
  unfold preL
  split
  ·omega
  ·simp only [ByteArray.size_append, lit_size, List.size_toArray, List.length_cons, List.length_nil]
   omega
 unfold namL
 split
 ·split
  ·exact hp _ (strip_size s st (by omega))
  ·exact Nat.zero_le _
 ·exact hp _ (by omega)
theorem one_fit {x : It} (h : Fit x) (hr : rightI x = true) (st : Int) (px : ByteArray) (hpx : px.size ≤ 1000) : Fit (oneX st px x) := by
 obtain ⟨r1, r2⟩ := right_sizes hr
 refine ⟨?_, ?_, h.s9, h.s10, h.hl, h.hd, h.hp⟩
 ·have := nam_size st px x.f0.f1 r1 hpx
  show (namL st px x.f0.f1).size ≤ _
  omega
 ·show (if x.f0.f0 = 2 then namL st px x.f0.f2 else x.f0.f2).size ≤ _
  split
  ·have := nam_size st px x.f0.f2 r2 hpx
   omega
  ·exact h.s2
end Go.Proofs.YtejdmofljifkbaaGreatDoor.P
namespace Go.Proofs.YtejdmofljifkbaaGreatDoor.P
open Go.ChangeShapes Go.WideShapes Go.ChangeAt Go.RowKit Go.Proofs.YtejdmofljifkbaaGreatDoorW.PrintWords Go.Proofs.YtejdmofljifkbaaGreatDoorW.PrintLast Go.Proofs.YtejdmofljifkbaaGreatDoorW.PrintMore
section
variable {H : Type} {enc : TypeId × Value → H} {W : World} {base : Nat} {spare : Nat → Bool} {held : Bool}
def textOf : Value → ByteArray
 | .string s => s
 | _ => ⟨#[]⟩
theorem part_le {d : DataW H} {l : List (DataW H)} (h : d ∈ l) : Rows.uptoBulk d ≤ Rows.uptoBulkAll l := by
 induction l with
 | nil => cases h
 | cons x r ih =>
  simp only [Rows.uptoBulkAll]
  cases List.mem_cons.1 h with
  | inl e => subst e; omega
  | inr e => have := ih e; omega
theorem one_le (d : DataW H) : 1 ≤ Rows.uptoBulk d := by
 cases d with
 | lit l => cases l <;> simp [Rows.uptoBulk]
 | nil => simp [Rows.uptoBulk]
 | ptr d => simp [Rows.uptoBulk]
 | slice elems spare => simp [Rows.uptoBulk]
 | agg parts => simp [Rows.uptoBulk]
 | iface t d => simp [Rows.uptoBulk]
 | map entries => simp [Rows.uptoBulk]
 | held h => simp [Rows.uptoBulk]
theorem length_le (l : List (DataW H)) : l.length ≤ Rows.uptoBulkAll l := by
 induction l with
 | nil => simp [Rows.uptoBulkAll]
 | cons x r ih => have := one_le x; simp only [Rows.uptoBulkAll, List.length_cons]; omega
theorem open_pairs {fuel : Nat} {v : Value} {x : DataW H × List MemPlace} (h : DataW.trod enc Tryz.prog W base spare held fuel 24 [v] = some x) (hb : Rows.uptoBulk x.1 ≤ 1048576) :
  ∃ (A : Option Addr) (m : Nat) (l : List Pr), v = .slice A l.length m ∧ l.length ≤ m ∧ Kd.C k65 W A l.length l ∧ l.length ≤ 1048576 ∧ ∀ p ∈ l, p.f0.size ≤ 1048576 ∧ p.f1.size ≤ 1048576 := by
 rcases Go.Deep.open_slice_pairs Tryz.underlying24 Tryz.underlying65 (by kernel_rfl) rfl rfl (by kernel_rfl) (by kernel_rfl) h with ⟨hc, _⟩ | ⟨a, len, cap, m, n, V0, V1, D0, D1, P0, P1, hc, _, hl, hm, hmm, rfl, hx⟩
 ·injection hc with hc _
  subst hc
  exact ⟨none, 0, [], rfl, Nat.le_refl _, ⟨rfl, by decide, fun h => absurd h (by decide)⟩, by decide, by simp⟩
 ·injection hc with hc _
  subst hc
  have hml : maxLen = 9223372036854775807 := rfl
  have hlm : len ≤ m := by rw [hmm]; split <;> omega
  have hs : ∀ i, i < len → V0 i = .string (textOf (V0 i)) ∧ V1 i = .string (textOf (V1 i)) ∧ D0 i = .lit (.string (textOf (V0 i)).data.toList) ∧ D1 i = .lit (.string (textOf (V1 i)).data.toList) := by
   intro i hi
   obtain ⟨_, _, t0, t1⟩ := hx i (by omega)
   obtain ⟨s0, e0, d0, _⟩ := DataW.trod_string Tryz.underlying9 t0
   obtain ⟨s1, e1, d1, _⟩ := DataW.trod_string Tryz.underlying9 t1
   injection e0 with e0 _
   injection e1 with e1 _
   injection d0 with d0 _
   injection d1 with d1 _
   rw [e0, e1, d0, d1]
   exact ⟨rfl, rfl, rfl, rfl⟩
  have hlen : ((List.range len).map fun i => (⟨textOf (V0 i), textOf (V1 i)⟩ : Pr)).length = len := by simp
  have hbulk : Rows.uptoBulkAll ((List.range len).map fun i => DataW.agg [D0 i, D1 i]) ≤ 1048576 := by
   simp only [Rows.uptoBulk] at hb
   omega
  refine ⟨some a, cap, (List.range len).map fun i => ⟨textOf (V0 i), textOf (V1 i)⟩, by rw [hlen], by rw [hlen]; exact hl, ?_, ?_, ?_⟩
  ·rw [hlen]
   refine ⟨hlen, by omega, fun _ => ⟨a, rfl, ?_⟩⟩
   intro j p hp
   have hj : j < len := by
    have := (List.getElem?_eq_some_iff.1 hp).1
    rwa [hlen] at this
   obtain rfl : (⟨textOf (V0 j), textOf (V1 j)⟩ : Pr) = p := by
    rw [List.getElem?_map, List.getElem?_range hj] at hp
    exact Option.some.inj hp
   obtain ⟨c0, c1, _, _⟩ := hx j (by omega)
   obtain ⟨e0, e1, _, _⟩ := hs j hj
   refine ⟨[.string (textOf (V0 j)), .string (textOf (V1 j))], rfl, k65_mk _ _, ?_⟩
   intro i u hu
   rcases (by have := (List.getElem?_eq_some_iff.1 hu).1; simp at this; omega : i = 0 ∨ i = 1) with rfl | rfl
   ·obtain rfl : Value.string (textOf (V0 j)) = u := by simpa using hu
    rw [← e0]
    exact c0
   ·obtain rfl : Value.string (textOf (V1 j)) = u := by simpa using hu
    rw [← e1]
    exact c1
  ·rw [hlen]
   have := length_le ((List.range len).map fun i => DataW.agg [D0 i, D1 i])
   simp at this
   omega
  ·intro p hp
   obtain ⟨i, hi, rfl⟩ := List.mem_map.1 hp
   have hi := List.mem_range.1 hi
   obtain ⟨_, _, d0, d1⟩ := hs i hi
   have := part_le (List.mem_map.2 ⟨i, List.mem_range.2 hi, rfl⟩ : DataW.agg [D0 i, D1 i] ∈ (List.range len).map fun i => DataW.agg [D0 i, D1 i])
   rw [d0, d1] at this
   simp only [Rows.uptoBulk, Rows.uptoBulkAll, data_length] at this
   exact ⟨by show (textOf (V0 i)).size ≤ _; omega, by show (textOf (V1 i)).size ≤ _; omega⟩
theorem slice_len {t e : TypeId} {fuel : Nat} {A : Option Addr} {len m : Nat} {x : DataW H × List MemPlace} (ht : Tryz.prog.underlying t = some (.slice e)) (h : DataW.trod enc Tryz.prog W base spare held fuel t [.slice A len m] = some x) (hb : Rows.uptoBulk x.1 ≤ 1048576) : len ≤ 1048576 := by
 rcases Go.Deep.open_slice ht h with ⟨hc, _⟩ | ⟨a, len2, cap, m2, n, D, Pl, hc, _, hl, hm, hmm, rfl, hx⟩
 ·injection hc with hc _
  injection hc with _ hc _
  omega
 ·injection hc with hc _
  injection hc with _ hc _
  subst hc
  simp only [Rows.uptoBulk] at hb
  have := length_le ((List.range len).map D)
  simp at this
  omega
theorem open_bytes {fuel : Nat} {v : Value} {x : DataW H × List MemPlace} (h : DataW.trod enc Tryz.prog W base spare held fuel 27 [v] = some x) (hb : Rows.uptoBulk x.1 ≤ 1048576) :
  ∃ (A : Option Addr) (m : Nat) (d : List Int), v = .slice A d.length m ∧ d.length ≤ m ∧ (Kd.int .u8).C W A d.length d ∧ d.length ≤ 1048576 := by
 rcases open_ints Tryz.underlying27 Tryz.underlying5 (by kernel_rfl) h with ⟨hc, _⟩ | ⟨a, len, cap, zs, hc, _, hl, hm, hz, _, hcell, _⟩
 ·injection hc with hc _
  subst hc
  exact ⟨none, 0, [], rfl, Nat.le_refl _, ⟨rfl, by decide, fun h => absurd h (by decide)⟩, by decide⟩
 ·injection hc with hc _
  subst hc
  have hml : maxLen = 9223372036854775807 := rfl
  have hlz : len ≤ zs.length := by rw [hz]; split <;> omega
  have hlen : (zs.take len).length = len := by rw [List.length_take]; omega
  have hsl := slice_len Tryz.underlying27 h hb
  refine ⟨some a, cap, zs.take len, by rw [hlen], by rw [hlen]; exact hl, ?_, by rw [hlen]; exact hsl⟩
  rw [hlen]
  refine Kd.C_of_reads (d := (0 : Int)) (h1 := fun _ => rfl) ?_
  refine ⟨hlen, by omega, fun _ => ⟨a, rfl, fun j hj => ?_⟩⟩
  rw [hcell j (by omega), List.getD_eq_getElem?_getD, List.getD_eq_getElem?_getD, List.getElem?_take, if_pos hj]
end
structure Opened (W : World) (cs : List Value) (a0_0 : Int) (a0_1 : ByteArray) (a0_2 : ByteArray) (a0_3 : Int) (a0_4 : Int) (a0_5 : Int) (a0_6 : Int) (a0_7 : Int) (a0_8 : Int) (a0_9 : ByteArray) (a0_10 : ByteArray) (a0_11 : Int) (a0_12 : Int) (A13 : Option Addr) (m13 : Nat) (l13 : List Pr) (A14 : Option Addr) (m14 : Nat) (d : List Int) : Prop where
 cells : cs = [.int .i64 a0_0, .string a0_1, .string a0_2, .int .i64 a0_3, .int .i64 a0_4, .int .i64 a0_5, .int .i64 a0_6, .int .i64 a0_7, .int .i64 a0_8, .string a0_9, .string a0_10, .int .i64 a0_11, .int .i64 a0_12, .slice A13 l13.length m13, .slice A14 d.length m14]
 e13 : l13.length ≤ m13
 g13 : Kd.C k65 W A13 l13.length l13
 e14 : d.length ≤ m14
 g14 : (Kd.int .u8).C W A14 d.length d
 s1 : a0_1.size ≤ 1048576
 s2 : a0_2.size ≤ 1048576
 s9 : a0_9.size ≤ 1048576
 s10 : a0_10.size ≤ 1048576
 hl : l13.length ≤ 1048576
 hd : d.length ≤ 1048576
 hp : ∀ p ∈ l13, p.f0.size ≤ 1048576 ∧ p.f1.size ≤ 1048576
section
variable {H : Type} {enc : TypeId × Value → H} {W : World} {base : Nat} {spare : Nat → Bool} {held : Bool}
theorem open_item {fuel : Nat} {cs : List Value} {x : DataW H × List MemPlace} (h : DataW.trod enc Tryz.prog W base spare held fuel 29 cs = some x) (hb : Rows.uptoBulk x.1 ≤ 1048576) :
  ∃ a0_0 a0_1 a0_2 a0_3 a0_4 a0_5 a0_6 a0_7 a0_8 a0_9 a0_10 a0_11 a0_12 A13 m13 l13 A14 m14 d, Opened W cs a0_0 a0_1 a0_2 a0_3 a0_4 a0_5 a0_6 a0_7 a0_8 a0_9 a0_10 a0_11 a0_12 A13 m13 l13 A14 m14 d := by
 obtain ⟨y0, y1, n, rfl, hlen, t0, t1⟩ := trod_struct2 Tryz.underlying29 h
 rw [show Tryz.prog.cellsOf 29 = 15 by kernel_rfl] at hlen
 obtain ⟨v0, cs, rfl⟩ : ∃ v t, cs = v :: t := by cases cs with | nil => simp at hlen | cons v t => exact ⟨v, t, rfl⟩
 simp only [List.length_cons] at hlen
 obtain ⟨v1, cs, rfl⟩ : ∃ v t, cs = v :: t := by cases cs with | nil => simp at hlen | cons v t => exact ⟨v, t, rfl⟩
 simp only [List.length_cons] at hlen
 obtain ⟨v2, cs, rfl⟩ : ∃ v t, cs = v :: t := by cases cs with | nil => simp at hlen | cons v t => exact ⟨v, t, rfl⟩
 simp only [List.length_cons] at hlen
 obtain ⟨v3, cs, rfl⟩ : ∃ v t, cs = v :: t := by cases cs with | nil => simp at hlen | cons v t => exact ⟨v, t, rfl⟩
 simp only [List.length_cons] at hlen
 obtain ⟨v4, cs, rfl⟩ : ∃ v t, cs = v :: t := by cases cs with | nil => simp at hlen | cons v t => exact ⟨v, t, rfl⟩
 simp only [List.length_cons] at hlen
 obtain ⟨v5, cs, rfl⟩ : ∃ v t, cs = v :: t := by cases cs with | nil => simp at hlen | cons v t => exact ⟨v, t, rfl⟩
 simp only [List.length_cons] at hlen
 obtain ⟨v6, cs, rfl⟩ : ∃ v t, cs = v :: t := by cases cs with | nil => simp at hlen | cons v t => exact ⟨v, t, rfl⟩
 simp only [List.length_cons] at hlen
 obtain ⟨v7, cs, rfl⟩ : ∃ v t, cs = v :: t := by cases cs with | nil => simp at hlen | cons v t => exact ⟨v, t, rfl⟩
 simp only [List.length_cons] at hlen
 obtain ⟨v8, cs, rfl⟩ : ∃ v t, cs = v :: t := by cases cs with | nil => simp at hlen | cons v t => exact ⟨v, t, rfl⟩
 simp only [List.length_cons] at hlen
 obtain ⟨v9, cs, rfl⟩ : ∃ v t, cs = v :: t := by cases cs with | nil => simp at hlen | cons v t => exact ⟨v, t, rfl⟩
 simp only [List.length_cons] at hlen
 obtain ⟨v10, cs, rfl⟩ : ∃ v t, cs = v :: t := by cases cs with | nil => simp at hlen | cons v t => exact ⟨v, t, rfl⟩
 simp only [List.length_cons] at hlen
 obtain ⟨v11, cs, rfl⟩ : ∃ v t, cs = v :: t := by cases cs with | nil => simp at hlen | cons v t => exact ⟨v, t, rfl⟩
 simp only [List.length_cons] at hlen
 obtain ⟨v12, cs, rfl⟩ : ∃ v t, cs = v :: t := by cases cs with | nil => simp at hlen | cons v t => exact ⟨v, t, rfl⟩
 simp only [List.length_cons] at hlen
 obtain ⟨v13, cs, rfl⟩ : ∃ v t, cs = v :: t := by cases cs with | nil => simp at hlen | cons v t => exact ⟨v, t, rfl⟩
 simp only [List.length_cons] at hlen
 obtain ⟨v14, cs, rfl⟩ : ∃ v t, cs = v :: t := by cases cs with | nil => simp at hlen | cons v t => exact ⟨v, t, rfl⟩
 simp only [List.length_cons] at hlen
 obtain rfl : cs = [] := List.length_eq_zero_iff.1 (by omega)
 replace t0 : DataW.trod enc Tryz.prog W base spare held n 26 [v0, v1, v2, v3, v4, v5, v6, v7, v8, v9, v10, v11, v12, v13] = some y0 := by
  have e : Tryz.prog.cellsOf 26 = 14 := by kernel_rfl
  simpa [e] using t0
 replace t1 : DataW.trod enc Tryz.prog W base spare held n 27 [v14] = some y1 := by
  have e : Tryz.prog.cellsOf 27 = 1 := by kernel_rfl
  simpa [e] using t1
 obtain ⟨xs, n2, _, rfl, _, hxs, hf⟩ := DataW.trod_struct Tryz.underlying26 t0
 replace hxs : xs.length = 13 := hxs
 obtain ⟨x0, xs, rfl⟩ : ∃ v t, xs = v :: t := by cases xs with | nil => simp at hxs | cons v t => exact ⟨v, t, rfl⟩
 simp only [List.length_cons] at hxs
 obtain ⟨x1, xs, rfl⟩ : ∃ v t, xs = v :: t := by cases xs with | nil => simp at hxs | cons v t => exact ⟨v, t, rfl⟩
 simp only [List.length_cons] at hxs
 obtain ⟨x2, xs, rfl⟩ : ∃ v t, xs = v :: t := by cases xs with | nil => simp at hxs | cons v t => exact ⟨v, t, rfl⟩
 simp only [List.length_cons] at hxs
 obtain ⟨x3, xs, rfl⟩ : ∃ v t, xs = v :: t := by cases xs with | nil => simp at hxs | cons v t => exact ⟨v, t, rfl⟩
 simp only [List.length_cons] at hxs
 obtain ⟨x4, xs, rfl⟩ : ∃ v t, xs = v :: t := by cases xs with | nil => simp at hxs | cons v t => exact ⟨v, t, rfl⟩
 simp only [List.length_cons] at hxs
 obtain ⟨x5, xs, rfl⟩ : ∃ v t, xs = v :: t := by cases xs with | nil => simp at hxs | cons v t => exact ⟨v, t, rfl⟩
 simp only [List.length_cons] at hxs
 obtain ⟨x6, xs, rfl⟩ : ∃ v t, xs = v :: t := by cases xs with | nil => simp at hxs | cons v t => exact ⟨v, t, rfl⟩
 simp only [List.length_cons] at hxs
 obtain ⟨x7, xs, rfl⟩ : ∃ v t, xs = v :: t := by cases xs with | nil => simp at hxs | cons v t => exact ⟨v, t, rfl⟩
 simp only [List.length_cons] at hxs
 obtain ⟨x8, xs, rfl⟩ : ∃ v t, xs = v :: t := by cases xs with | nil => simp at hxs | cons v t => exact ⟨v, t, rfl⟩
 simp only [List.length_cons] at hxs
 obtain ⟨x9, xs, rfl⟩ : ∃ v t, xs = v :: t := by cases xs with | nil => simp at hxs | cons v t => exact ⟨v, t, rfl⟩
 simp only [List.length_cons] at hxs
 obtain ⟨x10, xs, rfl⟩ : ∃ v t, xs = v :: t := by cases xs with | nil => simp at hxs | cons v t => exact ⟨v, t, rfl⟩
 simp only [List.length_cons] at hxs
 obtain ⟨x11, xs, rfl⟩ : ∃ v t, xs = v :: t := by cases xs with | nil => simp at hxs | cons v t => exact ⟨v, t, rfl⟩
 simp only [List.length_cons] at hxs
 obtain ⟨x12, xs, rfl⟩ : ∃ v t, xs = v :: t := by cases xs with | nil => simp at hxs | cons v t => exact ⟨v, t, rfl⟩
 simp only [List.length_cons] at hxs
 obtain rfl : xs = [] := List.length_eq_zero_iff.1 (by omega)
 have wI : Tryz.prog.cellsOf 3 = 1 := by kernel_rfl
 have wJ : Tryz.prog.cellsOf 2 = 1 := by kernel_rfl
 have wS : Tryz.prog.cellsOf 9 = 1 := by kernel_rfl
 have wT : Tryz.prog.cellsOf 23 = 2 := by kernel_rfl
 have wE : Tryz.prog.cellsOf 24 = 1 := by kernel_rfl
 have f0 : DataW.trod enc Tryz.prog W base spare held n2 3 [v0] = some x0 := by
  have z := hf 0 _ rfl
  simpa [wI, wJ, wS, wT, wE] using z
 have f1 : DataW.trod enc Tryz.prog W base spare held n2 9 [v1] = some x1 := by
  have z := hf 1 _ rfl
  simpa [wI, wJ, wS, wT, wE] using z
 have f2 : DataW.trod enc Tryz.prog W base spare held n2 9 [v2] = some x2 := by
  have z := hf 2 _ rfl
  simpa [wI, wJ, wS, wT, wE] using z
 have f3 : DataW.trod enc Tryz.prog W base spare held n2 2 [v3] = some x3 := by
  have z := hf 3 _ rfl
  simpa [wI, wJ, wS, wT, wE] using z
 have f4 : DataW.trod enc Tryz.prog W base spare held n2 2 [v4] = some x4 := by
  have z := hf 4 _ rfl
  simpa [wI, wJ, wS, wT, wE] using z
 have f5 : DataW.trod enc Tryz.prog W base spare held n2 2 [v5] = some x5 := by
  have z := hf 5 _ rfl
  simpa [wI, wJ, wS, wT, wE] using z
 have f6 : DataW.trod enc Tryz.prog W base spare held n2 2 [v6] = some x6 := by
  have z := hf 6 _ rfl
  simpa [wI, wJ, wS, wT, wE] using z
 have f7 : DataW.trod enc Tryz.prog W base spare held n2 23 [v7, v8] = some x7 := by
  have z := hf 7 _ rfl
  simpa [wI, wJ, wS, wT, wE] using z
 have f8 : DataW.trod enc Tryz.prog W base spare held n2 9 [v9] = some x8 := by
  have z := hf 8 _ rfl
  simpa [wI, wJ, wS, wT, wE] using z
 have f9 : DataW.trod enc Tryz.prog W base spare held n2 9 [v10] = some x9 := by
  have z := hf 9 _ rfl
  simpa [wI, wJ, wS, wT, wE] using z
 have f10 : DataW.trod enc Tryz.prog W base spare held n2 2 [v11] = some x10 := by
  have z := hf 10 _ rfl
  simpa [wI, wJ, wS, wT, wE] using z
 have f11 : DataW.trod enc Tryz.prog W base spare held n2 2 [v12] = some x11 := by
  have z := hf 11 _ rfl
  simpa [wI, wJ, wS, wT, wE] using z
 have f12 : DataW.trod enc Tryz.prog W base spare held n2 24 [v13] = some x12 := by
  have z := hf 12 _ rfl
  simpa [wI, wJ, wS, wT, wE] using z
 clear hf
 obtain ⟨a0_0, e0, rfl, r0⟩ := DataW.trod_int Tryz.underlying3 f0
 injection e0 with e0 _
 subst e0
 obtain ⟨a0_1, e1, rfl, _⟩ := DataW.trod_string Tryz.underlying9 f1
 injection e1 with e1 _
 subst e1
 obtain ⟨a0_2, e2, rfl, _⟩ := DataW.trod_string Tryz.underlying9 f2
 injection e2 with e2 _
 subst e2
 obtain ⟨a0_3, e3, rfl, r3⟩ := DataW.trod_int Tryz.underlying2 f3
 injection e3 with e3 _
 subst e3
 obtain ⟨a0_4, e4, rfl, r4⟩ := DataW.trod_int Tryz.underlying2 f4
 injection e4 with e4 _
 subst e4
 obtain ⟨a0_5, e5, rfl, r5⟩ := DataW.trod_int Tryz.underlying2 f5
 injection e5 with e5 _
 subst e5
 obtain ⟨a0_6, e6, rfl, r6⟩ := DataW.trod_int Tryz.underlying2 f6
 injection e6 with e6 _
 subst e6
 obtain ⟨z0, z1, n3, rfl, _, u0, u1⟩ := trod_struct2 Tryz.underlying23 f7
 replace u0 : DataW.trod enc Tryz.prog W base spare held n3 2 [v7] = some z0 := by simpa [wJ] using u0
 replace u1 : DataW.trod enc Tryz.prog W base spare held n3 2 [v8] = some z1 := by simpa [wJ] using u1
 obtain ⟨a0_7, e7, rfl, r7⟩ := DataW.trod_int Tryz.underlying2 u0
 injection e7 with e7 _
 subst e7
 obtain ⟨a0_8, e8, rfl, r8⟩ := DataW.trod_int Tryz.underlying2 u1
 injection e8 with e8 _
 subst e8
 obtain ⟨a0_9, e9, rfl, _⟩ := DataW.trod_string Tryz.underlying9 f8
 injection e9 with e9 _
 subst e9
 obtain ⟨a0_10, e10, rfl, _⟩ := DataW.trod_string Tryz.underlying9 f9
 injection e10 with e10 _
 subst e10
 obtain ⟨a0_11, e11, rfl, r11⟩ := DataW.trod_int Tryz.underlying2 f10
 injection e11 with e11 _
 subst e11
 obtain ⟨a0_12, e12, rfl, r12⟩ := DataW.trod_int Tryz.underlying2 f11
 injection e12 with e12 _
 subst e12
 simp only [Rows.uptoBulk, Rows.uptoBulkAll, List.map_cons, List.map_nil, data_length] at hb
 obtain ⟨A13, m13, l13, e13, le13, g13, hl, hp⟩ := open_pairs f12 (by omega)
 obtain ⟨A14, m14, d, e14, le14, g14, hd⟩ := open_bytes t1 (by omega)
 subst e13 e14
 exact ⟨a0_0, a0_1, a0_2, a0_3, a0_4, a0_5, a0_6, a0_7, a0_8, a0_9, a0_10, a0_11, a0_12, A13, m13, l13, A14, m14, d, rfl, le13, g13, le14, g14, by omega, by omega, by omega, by omega, hl, hd, hp⟩
def exA0 : It := ⟨⟨0, ⟨#[]⟩, ⟨#[]⟩, 0, 0, 0, 0, ⟨0, 0⟩, ⟨#[]⟩, ⟨#[]⟩, 0, 0, []⟩, []⟩
theorem open_items {fuel : Nat} {v : Value} {x : DataW H × List MemPlace} (h : DataW.trod enc Tryz.prog W base spare held fuel 32 [v] = some x) (hb : Rows.uptoBulk x.1 ≤ 1048576) :
  ∃ (A : Option Addr) (m : Nat) (l : List It), v = .slice A l.length m ∧ l.length ≤ m ∧ Kd.C k29 W A l.length l ∧ l.length ≤ 1048576 ∧ ∀ y ∈ l, Fit y := by
 rcases Go.Deep.open_slice Tryz.underlying32 h with ⟨hc, _⟩ | ⟨a, len, cap, m, n, D, Pl, hc, _, hl, hm, hmm, rfl, hx⟩
 ·injection hc with hc _
  subst hc
  exact ⟨none, 0, [], rfl, Nat.le_refl _, ⟨rfl, by decide, fun h => absurd h (by decide)⟩, by decide, by simp⟩
 ·injection hc with hc _
  subst hc
  have hml : maxLen = 9223372036854775807 := rfl
  have hlm : len ≤ m := by rw [hmm]; split <;> omega
  rw [show Tryz.prog.cellsOf 29 = 15 by kernel_rfl] at hx
  have hlen1 : len ≤ 1048576 := by
   have hb2 := hb
   simp only [Rows.uptoBulk] at hb2
   have := length_le ((List.range len).map D)
   simp at this
   omega
  have key : ∀ i : Nat, ∃ y : It, i < len → (∃ cs : List Value, cs.length = 15 ∧ k29.K W y cs ∧ ∀ (j : Nat) u, cs[j]? = some u → W.cell? ((a.add (i * 15)).add j) = some u) ∧ Fit y := by
   intro i
   by_cases hi : i < len
   ·obtain ⟨cs, hcs, ht⟩ := hx i (by omega)
    obtain ⟨_, hcl, hat⟩ := World.cells?_some hcs
    have hbi : Rows.uptoBulk (D i) ≤ 1048576 := by
     have := part_le (List.mem_map.2 ⟨i, List.mem_range.2 hi, rfl⟩ : D i ∈ (List.range len).map D)
     have hb2 := hb
     simp only [Rows.uptoBulk] at hb2
     omega
    obtain ⟨a0, a1, a2, a3, a4, a5, a6, a7, a8, a9, a10, a11, a12, A13, m13, l13, A14, m14, d, O⟩ := open_item ht hbi
    refine ⟨⟨⟨a0, a1, a2, a3, a4, a5, a6, ⟨a7, a8⟩, a9, a10, a11, a12, l13⟩, d⟩, fun _ => ⟨⟨cs, hcl, ?_, ?_⟩, ?_⟩⟩
    ·rw [O.cells]
     refine k29_mk W _ ?_ ?_ ?_ ?_
     ·exact O.e13
     ·exact O.g13
     ·exact O.e14
     ·exact O.g14
    ·intro j u hu
     rw [hat j (by have := (List.getElem?_eq_some_iff.1 hu).1; omega)]
     exact hu
    ·have h1 := O.s1
     have h2 := O.s2
     have h9 := O.s9
     have h10 := O.s10
     exact ⟨by show a1.size ≤ _; omega, by show a2.size ≤ _; omega, by show a9.size ≤ _; omega, by show a10.size ≤ _; omega, O.hl, O.hd, O.hp⟩
   ·exact ⟨exA0, fun h => absurd h hi⟩
  obtain ⟨Y, hY⟩ : ∃ Y : Nat → It, ∀ i, i < len → (∃ cs : List Value, cs.length = 15 ∧ k29.K W (Y i) cs ∧ ∀ (j : Nat) u, cs[j]? = some u → W.cell? ((a.add (i * 15)).add j) = some u) ∧ Fit (Y i) := ⟨fun i => (key i).choose, fun i => (key i).choose_spec⟩
  have hlen : ((List.range len).map Y).length = len := by simp
  refine ⟨some a, cap, (List.range len).map Y, by rw [hlen], by rw [hlen]; exact hl, ?_, by rw [hlen]; exact hlen1, ?_⟩
  ·rw [hlen]
   refine ⟨hlen, by omega, fun _ => ⟨a, rfl, ?_⟩⟩
   intro j p hp
   have hj : j < len := by
    have := (List.getElem?_eq_some_iff.1 hp).1
    rwa [hlen] at this
   obtain rfl : Y j = p := by
    rw [List.getElem?_map, List.getElem?_range hj] at hp
    exact Option.some.inj hp
   obtain ⟨⟨cs, h1, h2, h3⟩, _⟩ := hY j hj
   refine ⟨cs, h1, h2, fun i u hu => ?_⟩
   have := h3 i u hu
   rw [add_add] at this
   exact this
  ·intro y hy
   obtain ⟨i, hi, rfl⟩ := List.mem_map.1 hy
   exact (hY i (List.mem_range.1 hi)).2
def boolOf : Value → Bool
 | .bool b => b
 | _ => false
theorem open_rules {fuel : Nat} {v : Value} {x : DataW H × List MemPlace} (h : DataW.trod enc Tryz.prog W base spare held fuel 41 [v] = some x) (hb : Rows.uptoBulk x.1 ≤ 1048576) :
  ∃ (A : Option Addr) (m : Nat) (l : List Ru), v = .slice A l.length m ∧ l.length ≤ m ∧ Kd.C k45 W A l.length l := by
 rcases Go.Deep.open_slice_pairs Tryz.underlying41 Tryz.underlying45 (by kernel_rfl) rfl rfl (by kernel_rfl) (by kernel_rfl) h with ⟨hc, _⟩ | ⟨a, len, cap, m, n, V0, V1, D0, D1, P0, P1, hc, _, hl, hm, hmm, rfl, hx⟩
 ·injection hc with hc _
  subst hc
  exact ⟨none, 0, [], rfl, Nat.le_refl _, ⟨rfl, by decide, fun h => absurd h (by decide)⟩⟩
 ·injection hc with hc _
  subst hc
  have hml : maxLen = 9223372036854775807 := rfl
  have hlm : len ≤ m := by rw [hmm]; split <;> omega
  have hs : ∀ i, i < len → V0 i = .bool (boolOf (V0 i)) ∧ V1 i = .string (textOf (V1 i)) := by
   intro i hi
   obtain ⟨_, _, t0, t1⟩ := hx i (by omega)
   obtain ⟨s0, e0, _⟩ := DataW.trod_bool Tryz.underlying4 t0
   obtain ⟨s1, e1, d1, _⟩ := DataW.trod_string Tryz.underlying9 t1
   injection e0 with e0 _
   injection e1 with e1 _
   rw [e0, e1]
   exact ⟨rfl, rfl⟩
  have hlen : ((List.range len).map fun i => (⟨boolOf (V0 i), textOf (V1 i)⟩ : Ru)).length = len := by simp
  refine ⟨some a, cap, (List.range len).map fun i => ⟨boolOf (V0 i), textOf (V1 i)⟩, by rw [hlen], by rw [hlen]; exact hl, ?_⟩
  rw [hlen]
  refine ⟨hlen, by omega, fun _ => ⟨a, rfl, ?_⟩⟩
  intro j p hp
  have hj : j < len := by
   have := (List.getElem?_eq_some_iff.1 hp).1
   rwa [hlen] at this
  obtain rfl : (⟨boolOf (V0 j), textOf (V1 j)⟩ : Ru) = p := by
   rw [List.getElem?_map, List.getElem?_range hj] at hp
   exact Option.some.inj hp
  obtain ⟨c0, c1, _, _⟩ := hx j (by omega)
  obtain ⟨e0, e1⟩ := hs j hj
  refine ⟨[.bool (boolOf (V0 j)), .string (textOf (V1 j))], rfl, k45_mk _ _, ?_⟩
  intro i u hu
  rcases (by have := (List.getElem?_eq_some_iff.1 hu).1; simp at this; omega : i = 0 ∨ i = 1) with rfl | rfl
  ·obtain rfl : Value.bool (boolOf (V0 j)) = u := by simpa using hu
   rw [← e0]
   exact c0
  ·obtain rfl : Value.string (textOf (V1 j)) = u := by simpa using hu
   rw [← e1]
   exact c1
theorem open_plan {fuel : Nat} {cs : List Value} {x : DataW H × List MemPlace} (h : DataW.trod enc Tryz.prog W base spare held fuel 43 cs = some x) (hb : Rows.uptoBulk x.1 ≤ 1048576) :
  ∃ (all : Bool) (A : Option Addr) (m : Nat) (rs : List Ru) (st : Int) (px : ByteArray), cs = [.bool all, .slice A rs.length m, .int .i64 st, .string px] ∧ rs.length ≤ m ∧ Kd.C k45 W A rs.length rs := by
 obtain ⟨xs, n, _, rfl, hlen, hxs, hf⟩ := DataW.trod_struct Tryz.underlying43 h
 rw [show Tryz.prog.cellsOf 43 = 4 by kernel_rfl] at hlen
 replace hxs : xs.length = 4 := hxs
 obtain ⟨v0, cs, rfl⟩ : ∃ v t, cs = v :: t := by cases cs with | nil => simp at hlen | cons v t => exact ⟨v, t, rfl⟩
 simp only [List.length_cons] at hlen
 obtain ⟨v1, cs, rfl⟩ : ∃ v t, cs = v :: t := by cases cs with | nil => simp at hlen | cons v t => exact ⟨v, t, rfl⟩
 simp only [List.length_cons] at hlen
 obtain ⟨v2, cs, rfl⟩ : ∃ v t, cs = v :: t := by cases cs with | nil => simp at hlen | cons v t => exact ⟨v, t, rfl⟩
 simp only [List.length_cons] at hlen
 obtain ⟨v3, cs, rfl⟩ : ∃ v t, cs = v :: t := by cases cs with | nil => simp at hlen | cons v t => exact ⟨v, t, rfl⟩
 simp only [List.length_cons] at hlen
 obtain rfl : cs = [] := List.length_eq_zero_iff.1 (by omega)
 obtain ⟨x0, xs, rfl⟩ : ∃ v t, xs = v :: t := by cases xs with | nil => simp at hxs | cons v t => exact ⟨v, t, rfl⟩
 simp only [List.length_cons] at hxs
 obtain ⟨x1, xs, rfl⟩ : ∃ v t, xs = v :: t := by cases xs with | nil => simp at hxs | cons v t => exact ⟨v, t, rfl⟩
 simp only [List.length_cons] at hxs
 obtain ⟨x2, xs, rfl⟩ : ∃ v t, xs = v :: t := by cases xs with | nil => simp at hxs | cons v t => exact ⟨v, t, rfl⟩
 simp only [List.length_cons] at hxs
 obtain ⟨x3, xs, rfl⟩ : ∃ v t, xs = v :: t := by cases xs with | nil => simp at hxs | cons v t => exact ⟨v, t, rfl⟩
 simp only [List.length_cons] at hxs
 obtain rfl : xs = [] := List.length_eq_zero_iff.1 (by omega)
 have wB : Tryz.prog.cellsOf 4 = 1 := by kernel_rfl
 have wR : Tryz.prog.cellsOf 41 = 1 := by kernel_rfl
 have wI : Tryz.prog.cellsOf 3 = 1 := by kernel_rfl
 have wS : Tryz.prog.cellsOf 9 = 1 := by kernel_rfl
 have f0 : DataW.trod enc Tryz.prog W base spare held n 4 [v0] = some x0 := by
  have z := hf 0 _ rfl
  simpa [wB] using z
 have f1 : DataW.trod enc Tryz.prog W base spare held n 41 [v1] = some x1 := by
  have z := hf 1 _ rfl
  simpa [wR] using z
 have f2 : DataW.trod enc Tryz.prog W base spare held n 3 [v2] = some x2 := by
  have z := hf 2 _ rfl
  simpa [wI] using z
 have f3 : DataW.trod enc Tryz.prog W base spare held n 9 [v3] = some x3 := by
  have z := hf 3 _ rfl
  simpa [wS] using z
 obtain ⟨b, e0, rfl⟩ := DataW.trod_bool Tryz.underlying4 f0
 injection e0 with e0 _
 subst e0
 obtain ⟨st, e2, rfl, _⟩ := DataW.trod_int Tryz.underlying3 f2
 injection e2 with e2 _
 subst e2
 obtain ⟨px, e3, rfl, _⟩ := DataW.trod_string Tryz.underlying9 f3
 injection e3 with e3 _
 subst e3
 simp only [Rows.uptoBulk, Rows.uptoBulkAll, List.map_cons, List.map_nil] at hb
 obtain ⟨A, m, rs, rfl, hle, hC⟩ := open_rules f1 (by omega)
 exact ⟨b, A, m, rs, st, px, rfl, hle, hC⟩
end
end Go.Proofs.YtejdmofljifkbaaGreatDoor.P
namespace Go.Proofs.YtejdmofljifkbaaGreatDoor
open Go.ChangeShapes Go.WideShapes Go.RowKit
theorem lays260 : Go.Proofs.Lays.n260 Tryz.prog Tryz.lays197_ren where
 mixed := Tryz.lays197.mixed
 f260 := Tryz.lays197.f260
 t0 := Tryz.lays197.t0
 a0 := Tryz.lays197.a0
 z0 := Tryz.lays197.z0
 v0 := Tryz.lays197.v0
 t3 := Tryz.lays197.t3
 a3 := Tryz.lays197.a3
 z3 := Tryz.lays197.z3
 v3 := Tryz.lays197.v3
 t4 := Tryz.lays197.t4
 a4 := Tryz.lays197.a4
 z4 := Tryz.lays197.z4
 v4 := Tryz.lays197.v4
 t5 := Tryz.lays197.t5
 a5 := Tryz.lays197.a5
 z5 := Tryz.lays197.z5
 v5 := Tryz.lays197.v5
 t9 := Tryz.lays197.t9
 a9 := Tryz.lays197.a9
 z9 := Tryz.lays197.z9
 v9 := Tryz.lays197.v9
 t21 := Tryz.lays197.t21
 a21 := Tryz.lays197.a21
 z21 := Tryz.lays197.z21
 v21 := Tryz.lays197.v21
 t46 := Tryz.lays197.t46
 a46 := Tryz.lays197.a46
 z46 := Tryz.lays197.z46
 v46 := Tryz.lays197.v46
 t119 := Tryz.lays197.t119
 a119 := Tryz.lays197.a119
 z119 := Tryz.lays197.z119
 t138 := Tryz.lays197.t138
 a138 := Tryz.lays197.a138
 z138 := Tryz.lays197.z138
 v138 := Tryz.lays197.v138
 t139 := Tryz.lays197.t139
 a139 := Tryz.lays197.a139
 z139 := Tryz.lays197.z139
 v139 := Tryz.lays197.v139
 g3 := Tryz.lays197.g3
 g4 := Tryz.lays197.g4
theorem u8extra : Go.Proofs.U8Extra Tryz.prog Tryz.lays197_ren where
 n3 := by kernel_rfl
 n4 := by kernel_rfl
 y3 := by kernel_rfl
 y4 := by kernel_rfl
 c5 := by kernel_rfl
 c119 := by kernel_rfl
 c138 := by kernel_rfl
theorem first_is : Go.Pinned.utf8First = Lib.firstData := by kernel_rfl
theorem accept_is : (Rows.laid_unicode_utf8_acceptRanges : DataW Unit) = Lib.acceptData := by kernel_rfl
theorem pow_is : (Rows.laid_internal_strconv_uint64pow10 : DataW Unit) = Lib.tabData .u64 Lib.pow10Tab := by kernel_rfl
theorem star : "*" ++ "errors.errorString" = "*errors.errorString" := by decide
theorem errRow : ∀ u, Tryz.prog.typeName? 3 u = some "*errors.errorString" → u = 250 := fun u h =>
 typeName_ptr_named (nm := "errors.errorString") (by rw [star]; kernel_rfl) (by kernel_rfl) (by decide) u (by rw [star]; exact h)
theorem glob_of {W : World} (h : laidMetH Tryz.prog Rows.listLinesUptoRow.laid W) (hs : W.ShapedOpen Tryz.prog) : Glob W := by
 have h0 : laidMet Tryz.prog [("math/bits.deBruijn32tab", Rows.laid_math_bits_deBruijn32tab), ("math/bits.deBruijn64tab", Rows.laid_math_bits_deBruijn64tab), ("internal/strconv.uint64pow10", Rows.laid_internal_strconv_uint64pow10), ("unicode/utf8.acceptRanges", Rows.laid_unicode_utf8_acceptRanges), ("strconv.ErrRange", Rows.laid_strconv_ErrRange), ("strconv.ErrSyntax", Rows.laid_strconv_ErrSyntax), ("unicode/utf8.first", Rows.laid_unicode_utf8_first)] W := h
 refine ⟨?_, ?_, ?_, ?_, ?_⟩
 ·have h2 := laidMet.tail (laidMet.tail h0)
  rw [pow_is] at h2
  exact Lib.tabIs_of_head (n := Lib.pow10Tab.length) (t := 201) (e := 177) (g := 1) (by kernel_rfl) (by kernel_rfl) (by kernel_rfl) (by kernel_rfl) (by kernel_rfl) (by kernel_rfl) h2
 ·have r1 := Lib.laidMet.reads h0 (n := "unicode/utf8.first") (d := Rows.laid_unicode_utf8_first) (by simp)
  have r2 := Lib.laidMet.reads h0 (n := "unicode/utf8.acceptRanges") (d := Rows.laid_unicode_utf8_acceptRanges) (by simp)
  rw [show Rows.laid_unicode_utf8_first = Lib.firstData from first_is] at r1
  rw [accept_is] at r2
  exact Go.Proofs.utf8Tabs_of_reads lays260 u8extra r1 r2
 ·obtain ⟨a, s, hv, _⟩ := laid_sentinel (tp := 250) (te := 252) (ti := 109) (ts := 9) (g := 6) (laidMet.tail (laidMet.tail (laidMet.tail (laidMet.tail (laidMet.tail h0))))) (by kernel_rfl) (by kernel_rfl) Tryz.underlying109 errRow Tryz.underlying250 Tryz.underlying252 rfl rfl Tryz.underlying9 (by kernel_rfl) (by kernel_rfl)
  exact ⟨_, _, World.var?_cell (g := 6) (by kernel_rfl) hv 0⟩
 ·obtain ⟨a, s, hv, _⟩ := laid_sentinel (tp := 250) (te := 252) (ti := 109) (ts := 9) (g := 7) (laidMet.tail (laidMet.tail (laidMet.tail (laidMet.tail h0)))) (by kernel_rfl) (by kernel_rfl) Tryz.underlying109 errRow Tryz.underlying250 Tryz.underlying252 rfl rfl Tryz.underlying9 (by kernel_rfl) (by kernel_rfl)
  exact ⟨_, _, World.var?_cell (g := 7) (by kernel_rfl) hv 0⟩
 ·exact Go.Proofs.cell_of_shapedOpen_int (g := 0) (t := 3) (zero := #[.int .i64 0]) hs (of_decide_eq_true (by kernel_rfl)) (by kernel_rfl) rfl (by kernel_rfl) (by kernel_rfl) Tryz.underlying3
end Go.Proofs.YtejdmofljifkbaaGreatDoor
namespace Go.Proofs.YtejdmofljifkbaaGreatDoor.P
open Go.RowKit Go.Shelf Go.Proofs.YtejdmofljifkbaaGreatDoorW.PrintWords Go.Proofs.YtejdmofljifkbaaGreatDoorW.PrintLast Go.Proofs.YtejdmofljifkbaaGreatDoorW.PrintMore
set_option linter.unusedVariables false
def itemsP (all : Bool) (rs : List Ru) (st : Int) (px : ByteArray) (l : List It) : List It × Int := itemsV (rightP rs st px) (fun x => takenL all rs x.f0.f1 && oneOk st x) (oneX st px) rightI l
theorem items_fit (all : Bool) (A : Option Addr) (cap : Nat) (rs : List Ru) (st : Int) (px : ByteArray) (w : World) (hr : Kd.C k45 w A rs.length rs) (hcap : rs.length ≤ cap) (hlen : rs.length ≤ 1000000) (hz : ∀ r ∈ rs, r.f1.size ≤ 1000) (hpx : px.size ≤ 1000000)
  (A0 : Option Addr) (c0 : Nat) (l0 : List It) (hr0 : Kd.C k29 w A0 l0.length l0) (hl : l0.length ≤ 2000000) (hG : Glob w) (hf : ∀ x ∈ l0, Fit x) :
  Calls Tryz.prog 14 #[.agg #[.bool all, .slice A rs.length cap, .int .i64 st, .string px], .slice A0 l0.length c0] w fun e w' => ItemsPost w w' e (itemsP all rs st px l0) :=
 items_calls 2000000000000 rightI all A cap rs st px w hr hcap hlen hz hpx A0 c0 l0 hr0 hl hG (fun x hx => itR_fit (hf x hx) _ (Nat.le_refl _))
  (fun x hx h => by
   obtain ⟨r1, r2⟩ := right_sizes h
   have h3 := (hf x hx).hl
   have h4 := (hf x hx).hd
   exact ⟨by omega, by omega, by omega, by omega⟩)
  (fun hrt x hx h _ => itR_fit (one_fit (hf x hx) h st px (rule_right hrt).1) _ (Nat.le_refl _))
theorem itemsM_congr {t1 t2 : It → Bool} {on : It → It} {p : It → Bool} (h : ∀ x, t1 x = t2 x) : ∀ (l acc : List It), itemsM t1 on p l acc = itemsM t2 on p l acc
 | [], _ => rfl
 | x :: t, acc => by
  simp only [itemsM]
  rw [h x]
  split
  ·split
   ·exact itemsM_congr h t _
   ·rfl
  ·exact itemsM_congr h t _
theorem itemsP_ref (all : Bool) (rs : List Ru) (st : Int) (px : ByteArray) (l : List It) : itemsV (rightR (rs.map toR) st px) (fun x => (rs.map toR).foldl (takeR x.f0.f1) all && oneOk st x) (oneX st px) rightI l = itemsP all rs st px l := by
 unfold itemsP
 rw [right_same]
 cases h : rightP rs st px with
 | false => rfl
 | true =>
  have hr := (rule_right h).2
  unfold itemsV
  rw [itemsM_congr (fun x => by rw [taken_same all rs x.f0.f1 hr]) l []]
theorem ritems_fit (all : Bool) (A : Option Addr) (cap : Nat) (rs : List Ru) (st : Int) (px : ByteArray) (w : World) (hr : Kd.C k88 w A (rs.map toR).length (rs.map toR)) (hcap : (rs.map toR).length ≤ cap)
  (A0 : Option Addr) (c0 : Nat) (l0 : List It) (hr0 : Kd.C k29 w A0 l0.length l0) (hl : l0.length ≤ 2000000) (hf : ∀ x ∈ l0, Fit x) (hn : Near rs px l0) :
  Calls Tryz.prog 17 #[.agg #[.bool all, .slice A (rs.map toR).length cap, .int .i64 st, .string px], .slice A0 l0.length c0] w fun e w' => RItemsPost w w' e (itemsP all rs st px l0) := by
 obtain ⟨n1, n2, n3⟩ := hn
 rw [← itemsP_ref]
 refine ritems_calls 2000000000000 rightI all A cap (rs.map toR) st px w hr hcap (by rw [List.length_map]; omega) ?_ (by omega) A0 c0 l0 hr0 hl (fun x hx => itQ_fit (hf x hx) _ (Nat.le_refl _)) ?_ ?_
 ·intro r hr
  obtain ⟨r0, h0, rfl⟩ := List.mem_map.1 hr
  have := (n3 r0 h0).1
  show r0.f1.size ≤ 1000
  omega
 ·intro x hx h
  obtain ⟨r1, r2⟩ := right_sizes h
  refine ⟨by omega, by omega, fun hne => ?_⟩
  cases rs with
  | nil => exact absurd rfl hne
  | cons r t =>
   have := (n3 r List.mem_cons_self).2 x hx
   omega
 ·intro hrt x hx h _
  rw [right_same] at hrt
  exact itQ_fit (one_fit (hf x hx) h st px (rule_right hrt).1) _ (Nat.le_refl _)
theorem block_C {α : Type} (d : Kd α) {w : World} {B : Nat} {cells : Array Value} {t : TypeId} (hb : w.heap[B]? = some (.cells cells t (0, 0))) (xs : List α) (hl : xs.length ≤ 9223372036854775807)
  (hk : ∀ (j : Nat) (p : α), xs[j]? = some p → ∃ c, c.length = d.sz ∧ d.K w p c ∧ ∀ (i : Nat) u, c[i]? = some u → cells[j * d.sz + i]? = some u) : Kd.C d w (some ⟨B, 0, none⟩) xs.length xs := by
 refine ⟨rfl, hl, fun _ => ⟨⟨B, 0, none⟩, rfl, fun j p hp => ?_⟩⟩
 obtain ⟨c, h1, h2, h3⟩ := hk j p hp
 refine ⟨c, h1, h2, fun i u hu => ?_⟩
 rw [← h3 i u hu, add_at, Nat.zero_add]
 exact blk_cell hb _
def exRule : Ru := ⟨false, ⟨#[42, 42, 46, 111]⟩⟩
def exItem (n : ByteArray) : It := ⟨⟨1, n, ⟨#[]⟩, 0, 0, 0, 0, ⟨0, 0⟩, ⟨#[]⟩, ⟨#[]⟩, 0, 0, []⟩, []⟩
def exA : It := exItem ⟨#[97, 47, 98, 46, 99]⟩
def exB : It := exItem ⟨#[97, 47, 98, 46, 111]⟩
theorem ex_name : namL 1 ⟨#[]⟩ ⟨#[97, 47, 98, 46, 99]⟩ = ⟨#[98, 46, 99]⟩ := ext_data (by decide +kernel)
theorem ex_one : oneX 1 ⟨#[]⟩ exA = exItem ⟨#[98, 46, 99]⟩ := by
 unfold oneX exA exItem
 dsimp only
 rw [ex_name]
 rfl
theorem ex_items : itemsP true [exRule] 1 ⟨#[]⟩ [exA, exB] = ([exItem ⟨#[98, 46, 99]⟩], 0) := by
 have h1 : rightP [exRule] 1 ⟨#[]⟩ = true := by decide +kernel
 have h2 : [exA, exB].all rightI = true := by decide +kernel
 have h3 : (takenL true [exRule] exA.f0.f1 && oneOk 1 exA) = true := by decide +kernel
 have h4 : (takenL true [exRule] exB.f0.f1 && oneOk 1 exB) = false := by decide +kernel
 have h5 : rightI (exItem ⟨#[98, 46, 99]⟩) = true := by decide +kernel
 unfold itemsP itemsV
 rw [h1, h2]
 simp only [itemsM, h3, h4, ex_one, h5]
 rfl
theorem ex_fit : ∀ x ∈ [exA, exB], Fit x := by
 intro x hx
 simp only [List.mem_cons, List.not_mem_nil, or_false] at hx
 rcases hx with rfl | rfl <;> exact ⟨by decide +kernel, by decide +kernel, by decide +kernel, by decide +kernel, by decide, by decide, fun p hp => (by cases hp)⟩
end Go.Proofs.YtejdmofljifkbaaGreatDoor.P
namespace Go.Proofs.YtejdmofljifkbaaGreatDoor.P
open Go.RowKit Go.Shelf Go.Proofs.YtejdmofljifkbaaGreatDoorW.PrintWords Go.Proofs.YtejdmofljifkbaaGreatDoorW.PrintLast Go.Proofs.YtejdmofljifkbaaGreatDoorW.PrintMore
set_option linter.unusedVariables false
attribute [local go_sem] Oper.semAt_some
theorem nil_C {α : Type} (d : Kd α) (w : World) : Kd.C d w none 0 [] := ⟨rfl, by decide, fun h => absurd h (by decide)⟩
theorem ex_rules {w : World} {B : Nat} (hb : w.heap[B]? = some (.cells #[.bool false, .string ⟨#[42, 42, 46, 111]⟩] 45 (0, 0))) : Kd.C k45 w (some ⟨B, 0, none⟩) 1 [exRule] :=
 block_C k45 hb [exRule] (by decide) (fun j p hp => by
  cases j with
  | succ j => simp at hp
  | zero =>
   obtain rfl : exRule = p := by simpa using hp
   refine ⟨_, rfl, k45_mk w exRule, fun i u hu => ?_⟩
   match i, hu with
   | 0, hu => exact hu
   | 1, hu => exact hu
   | i + 2, hu => cases hu)
theorem ex_rows {w : World} {B : Nat} (hb : w.heap[B]? = some (.cells #[.int .i64 1, .string ⟨#[97, 47, 98, 46, 99]⟩, .string ⟨#[]⟩, .int .i64 0, .int .i64 0, .int .i64 0, .int .i64 0, .int .i64 0, .int .i64 0, .string ⟨#[]⟩, .string ⟨#[]⟩, .int .i64 0, .int .i64 0, .slice none 0 0, .slice none 0 0, .int .i64 1, .string ⟨#[97, 47, 98, 46, 111]⟩, .string ⟨#[]⟩, .int .i64 0, .int .i64 0, .int .i64 0, .int .i64 0, .int .i64 0, .int .i64 0, .string ⟨#[]⟩, .string ⟨#[]⟩, .int .i64 0, .int .i64 0, .slice none 0 0, .slice none 0 0] 29 (0, 0))) : Kd.C k29 w (some ⟨B, 0, none⟩) 2 [exA, exB] :=
 block_C k29 hb [exA, exB] (by decide) (fun j p hp => by
  match j, hp with
  | 0, hp =>
   obtain rfl : exA = p := by simpa using hp
   refine ⟨[.int .i64 1, .string ⟨#[97, 47, 98, 46, 99]⟩, .string ⟨#[]⟩, .int .i64 0, .int .i64 0, .int .i64 0, .int .i64 0, .int .i64 0, .int .i64 0, .string ⟨#[]⟩, .string ⟨#[]⟩, .int .i64 0, .int .i64 0, .slice none 0 0, .slice none 0 0], rfl, k29_mk w exA (A13 := none) (c13 := 0) (A14 := none) (c14 := 0) (Nat.le_refl _) (nil_C _ w) (Nat.le_refl _) (nil_C _ w), fun i u hu => ?_⟩
   have hi := (List.getElem?_eq_some_iff.1 hu).1
   rw [← hu, show (0 * k29.sz + i) = i from by rw [Nat.zero_mul, Nat.zero_add], ← Array.getElem?_toList]
   exact (List.getElem?_append_left (l₂ := ([.int .i64 1, .string ⟨#[97, 47, 98, 46, 111]⟩, .string ⟨#[]⟩, .int .i64 0, .int .i64 0, .int .i64 0, .int .i64 0, .int .i64 0, .int .i64 0, .string ⟨#[]⟩, .string ⟨#[]⟩, .int .i64 0, .int .i64 0, .slice none 0 0, .slice none 0 0] : List Value)) hi)
  | 1, hp =>
   obtain rfl : exB = p := by simpa using hp
   refine ⟨[.int .i64 1, .string ⟨#[97, 47, 98, 46, 111]⟩, .string ⟨#[]⟩, .int .i64 0, .int .i64 0, .int .i64 0, .int .i64 0, .int .i64 0, .int .i64 0, .string ⟨#[]⟩, .string ⟨#[]⟩, .int .i64 0, .int .i64 0, .slice none 0 0, .slice none 0 0], rfl, k29_mk w exB (A13 := none) (c13 := 0) (A14 := none) (c14 := 0) (Nat.le_refl _) (nil_C _ w) (Nat.le_refl _) (nil_C _ w), fun i u hu => ?_⟩
   rw [← hu, show (1 * k29.sz + i) = 15 + i from by rw [Nat.one_mul]; rfl, ← Array.getElem?_toList]
   exact (List.getElem?_append_right (l₁ := ([.int .i64 1, .string ⟨#[97, 47, 98, 46, 99]⟩, .string ⟨#[]⟩, .int .i64 0, .int .i64 0, .int .i64 0, .int .i64 0, .int .i64 0, .int .i64 0, .string ⟨#[]⟩, .string ⟨#[]⟩, .int .i64 0, .int .i64 0, .slice none 0 0, .slice none 0 0] : List Value)) (i := 15 + i) (by simp)).trans (by simp)
  | j + 2, hp => simp at hp)
set_option maxRecDepth 100000 in
set_option maxHeartbeats 6400000 in
theorem alive_calls (w : World) (hG : Glob w) : Calls Tryz.prog 12 #[] w fun e w' => e = .returned (.bool true) ∧ Below w.heap.size w w' := by
 have hu1 := Tryz.underlying43
 have hu2 := Tryz.underlying45
 have hu3 := Tryz.underlying29
 have hu4 := Tryz.underlying26
 have HG := Lib.hid hG
 clear hG
 go_enter Tryz.func12, Tryz.ntmps12
 go_wp2_with fail
 have hW : Below w.heap.size w ((w.alloc (.cells #[.bool false, .string ⟨#[42, 42, 46, 111]⟩] 45)).alloc (.cells #[.int .i64 1, .string ⟨#[97, 47, 98, 46, 99]⟩, .string ⟨#[]⟩, .int .i64 0, .int .i64 0, .int .i64 0, .int .i64 0, .int .i64 0, .int .i64 0, .string ⟨#[]⟩, .string ⟨#[]⟩, .int .i64 0, .int .i64 0, .slice none 0 0, .slice none 0 0, .int .i64 1, .string ⟨#[97, 47, 98, 46, 111]⟩, .string ⟨#[]⟩, .int .i64 0, .int .i64 0, .int .i64 0, .int .i64 0, .int .i64 0, .int .i64 0, .string ⟨#[]⟩, .string ⟨#[]⟩, .int .i64 0, .int .i64 0, .slice none 0 0, .slice none 0 0] 29)) := ((Below.refl _ w).alloc (Nat.le_refl _) _).alloc (by simp) _
 have b1 := heap_alloc_new (w.alloc (.cells #[.bool false, .string ⟨#[42, 42, 46, 111]⟩] 45)) (.cells #[.int .i64 1, .string ⟨#[97, 47, 98, 46, 99]⟩, .string ⟨#[]⟩, .int .i64 0, .int .i64 0, .int .i64 0, .int .i64 0, .int .i64 0, .int .i64 0, .string ⟨#[]⟩, .string ⟨#[]⟩, .int .i64 0, .int .i64 0, .slice none 0 0, .slice none 0 0, .int .i64 1, .string ⟨#[97, 47, 98, 46, 111]⟩, .string ⟨#[]⟩, .int .i64 0, .int .i64 0, .int .i64 0, .int .i64 0, .int .i64 0, .int .i64 0, .string ⟨#[]⟩, .string ⟨#[]⟩, .int .i64 0, .int .i64 0, .slice none 0 0, .slice none 0 0] 29)
 have b0 := (Below.heap_alloc (w.alloc (.cells #[.bool false, .string ⟨#[42, 42, 46, 111]⟩] 45)) (.cells #[.int .i64 1, .string ⟨#[97, 47, 98, 46, 99]⟩, .string ⟨#[]⟩, .int .i64 0, .int .i64 0, .int .i64 0, .int .i64 0, .int .i64 0, .int .i64 0, .string ⟨#[]⟩, .string ⟨#[]⟩, .int .i64 0, .int .i64 0, .slice none 0 0, .slice none 0 0, .int .i64 1, .string ⟨#[97, 47, 98, 46, 111]⟩, .string ⟨#[]⟩, .int .i64 0, .int .i64 0, .int .i64 0, .int .i64 0, .int .i64 0, .int .i64 0, .string ⟨#[]⟩, .string ⟨#[]⟩, .int .i64 0, .int .i64 0, .slice none 0 0, .slice none 0 0] 29) w.heap.size (by simp)).trans (heap_alloc_new w (.cells #[.bool false, .string ⟨#[42, 42, 46, 111]⟩] 45))
 rw [World.size_alloc] at b1
 refine (items_fit true (some ⟨w.heap.size, 0, none⟩) 1 [exRule] 1 ⟨#[]⟩ _ (ex_rules b0) (Nat.le_refl _) (by decide) (fun r hr => by rw [List.mem_singleton] at hr; subst hr; decide) (by decide) (some ⟨w.heap.size + 1, 0, none⟩) 2 [exA, exB] (ex_rows b1) (by decide) (Glob.below HG.out hW) ex_fit).mono ?_
 rw [ex_items]
 rintro e w2 ⟨v, rfl, hR, hb⟩
 have HB := Lib.hid (below_step hW hb)
 clear hb hW b0 b1
 obtain ⟨A, c, rfl, hc, hC⟩ := Kd.R_reads hR
 obtain ⟨ad, A13, c13, A14, c14, rfl, _, k1, _⟩ := at_T29 hC 0 (by decide) (by decide)
 have hn : (rd_T29 [exItem ⟨#[98, 46, 99]⟩] 0).f0.f1 = ⟨#[98, 46, 99]⟩ := rfl
 rw [hn, show Int.toNat 0 * 15 = 0 from rfl] at k1
 have k2 : w2.cell? ⟨ad.block, ad.off + 1, none⟩ = some (.string ⟨#[98, 46, 99]⟩) := by
  have e : ad.add 0 = ad := by
   unfold Addr.add
   split <;> simp_all
  rw [e] at k1
  exact k1
 clear hR hC hn hc
 go_wp2
 go_ret
 exact ⟨rfl, HB.out⟩
end Go.Proofs.YtejdmofljifkbaaGreatDoor.P
namespace Go.Proofs.YtejdmofljifkbaaGreatDoor.Gl
open Go.RowKit
end Go.Proofs.YtejdmofljifkbaaGreatDoor.Gl
namespace Go.Proofs.YtejdmofljifkbaaGreatDoor.P
open Go.RowKit Go.Shelf Go.Proofs.YtejdmofljifkbaaGreatDoorW.PrintWords Go.Proofs.YtejdmofljifkbaaGreatDoorW.PrintLast Go.Proofs.YtejdmofljifkbaaGreatDoorW.PrintMore
set_option linter.unusedVariables false
attribute [local go_sem] Oper.semAt_some
end Go.Proofs.YtejdmofljifkbaaGreatDoor.P
