/- oakumlaw15.StepArgs: whatever the input, true; the input reads as it did. The listed package variables are tied to the program's text by the given tie. -/
import Derived.Test.YtedglegjghokfaaGreatDoorAg5
import Derived.Lib.QuietBelow
import Derived.Test.YtedglegjghokfaaGreatDoorRows
import Derived.Stop.LaidErr
import Derived.Shelf.Vars
import Derived.LaidLaws
import Derived.ProofKit
import Derived.OpenShut
import Derived.ChangeSlices
import Derived.Carry
import Derived.Lay
import Derived.Test.YtedglegjghokfaaGreatDoorCards
import Derived.Test.YtedglegjghokfaaGreatDoorTie
import Derived.Deep.DeepHandedRow
import Derived.Deep.DeepWitnessRowRef
set_option linter.unusedVariables false
set_option linter.unusedSimpArgs false
namespace Go.Proofs.YtedglegjghokfaaGreatDoor.P
open Go.RowKit Go.Proofs.YtedglegjghokfaaGreatDoorW.PrintWords Go.Proofs.YtedglegjghokfaaGreatDoorW.PrintLast Go.Proofs.YtedglegjghokfaaGreatDoorW.PrintMore
open Go.Proofs.YtedglegjghokfaaGreatDoor
set_option linter.unusedVariables false
attribute [local go_sem] Oper.semAt_some min2_int min_two
def dBlk.T6 : Bool × List (List Nat × List Nat) := (true, [([], []), ([], []), ([1], [1]), ([2], [2]), ([3], [3]), ([4], [4]), ([0, 0], [0]), ([5, 6, 0, 1, 2, 3, 4, 5, 6], [5])])
def dBlk.B6 : List Nat := [0, 0, 2, 6, 14, 30, 1, 127]
theorem dBlk.tab6 : rtab .any (opsOf Tryz.f11 6) = dBlk.T6 := by kernel_rfl
theorem dBlk.bits6 : waitsOk dBlk.T6.2 dBlk.B6 = true := by kernel_rfl
def dBlk.T13 : Bool × List (List Nat × List Nat) := (true, [([], []), ([], []), ([1], [1]), ([2], [2]), ([3], [3]), ([], []), ([], []), ([6], [6]), ([7], [7]), ([8], [8]), ([9], [9]), ([5, 10], [5, 10]), ([4, 11], [4, 11]), ([0, 0, 1, 2, 3, 4, 5, 6, 7, 8, 9, 10, 11, 12], [0]), ([13, 0, 1, 2, 3, 4, 5, 6, 7, 8, 9, 10, 11, 12], [13]), ([14, 12, 12, 0, 1, 2, 3, 4, 5, 6, 7, 8, 9, 10, 11, 12], [12, 14])])
def dBlk.B13 : List Nat := [0, 0, 2, 6, 14, 0, 0, 64, 192, 448, 960, 2016, 4094, 8191, 16383, 32767]
theorem dBlk.tab13 : rtab .any (opsOf Tryz.f11 13) = dBlk.T13 := by kernel_rfl
theorem dBlk.bits13 : waitsOk dBlk.T13.2 dBlk.B13 = true := by kernel_rfl
def dBlk.T14 : Bool × List (List Nat × List Nat) := (true, [([], []), ([0], [0]), ([1], [1]), ([2], [2]), ([], []), ([4], [4]), ([5], [5]), ([6], [6]), ([7], [7]), ([3, 8], [3, 8]), ([0, 0, 1, 2, 3, 4, 5, 6, 7, 8, 9], [0]), ([10, 0, 1, 2, 3, 4, 5, 6, 7, 8, 9], [10]), ([11, 9, 0, 1, 2, 3, 4, 5, 6, 7, 8, 9], [9, 11])])
def dBlk.B14 : List Nat := [0, 1, 3, 7, 0, 16, 48, 112, 240, 511, 1023, 2047, 4095]
theorem dBlk.tab14 : rtab .any (opsOf Tryz.f11 14) = dBlk.T14 := by kernel_rfl
theorem dBlk.bits14 : waitsOk dBlk.T14.2 dBlk.B14 = true := by kernel_rfl
def firstX (d : Dc) : Int := firstB (atOf d.p.aN) (atOf d.p.aL) d.xt (decide (0 ≤ d.p.aN)) (decide (0 ≤ d.p.aL)) (decide (0 ≤ d.p.aX)) 3
def edC (d : Dc) : Dc × EvV × Int := if 0 ≤ firstX d then failC d 7 (firstX d) else ({ d with st := 4 }, .fin, 0)
def blkC (d : Dc) (l : List Int) : Dc × EvV × Int :=
 if d.st = 5 then (d, .none, d.fc) else if d.st = 4 then (d, .none, 0)
 else if d.st = 1 then
  if 512 < d.left then ({ d with blocks := d.blocks + 1, buf := d.buf ++ l, left := d.left - 512 }, .none, 0)
  else ((extC { d with blocks := d.blocks + 1, buf := d.buf ++ l.take d.left.toNat, left := 0 }).1, .none, (extC { d with blocks := d.blocks + 1, buf := d.buf ++ l.take d.left.toNat, left := 0 }).2)
 else if d.st = 2 then
  if 512 < d.left then ({ d with blocks := d.blocks + 1, left := d.left - 512 }, .data l, 0)
  else ({ d with blocks := d.blocks + 1, left := 0, st := 0 }, .data (l.take d.left.toNat), 0)
 else if d.st = 3 then
  if blankV l = false then failC { d with blocks := d.blocks + 1 } 4 (d.blocks - 1) else edC { d with blocks := d.blocks + 1 }
 else if blankV l = true then ({ d with blocks := d.blocks + 1, st := 3 }, .none, 0)
 else headC { d with blocks := d.blocks + 1 } l d.blocks
structure DI (d : Dc) : Prop where
 bl : 0 ≤ d.blocks ∧ d.blocks < 1000000
 one : d.st = 1 → 0 < d.left ∧ d.left ≤ 65536 ∧ byteL d.buf = true ∧ 0 ≤ d.from_
 two : d.st = 2 → 0 < d.left ∧ d.left ≤ 9223372036854775807
 pr : PR d.p
 gl : d.p.glo.length + d.buf.length + 512 < 1000000
section
variable {w0 w w1 w2 : World} {v0 : Value} {D : Nat} {d d' : Dc} {vl vg vb v1 : Value}
theorem DT.app (h : DT w0 v0 w D d vl vg vb) {bs : List Int} (hR : RB w1 v1 bs) (hg : w.grownBy w1 vb.ownBlock) (hat : v1.ownBlock = vb.ownBlock ∨ ∃ b, v1.ownBlock = some b ∧ w.heap.size ≤ b)
  (h1 : w2.heap[D]? = some (.cells (dcells d' vl vg v1) 72 (0, 0))) (h2 : ∀ k, k ≠ D → w2.heap[k]? = w1.heap[k]?) (h3 : w2.heap.size = w1.heap.size) (h4 : ∀ (H : Nat) (w' : World), H ≤ D → Below H w' w1 → Below H w' w2)
  (hl : d'.p.loc = d.p.loc) (hgl : d'.p.glo = d.p.glo) (hb : d'.buf = bs) : DT w0 v0 w2 D d' vl vg v1 := by
 have hDn : some D ≠ vb.ownBlock := DS_own_ne h.ds h.ds.blk (by decide)
 have hD1 : w1.heap[D]? = some (.cells (dcells d vl vg vb) 72 (0, 0)) := (hg.block D h.ds.lt hDn).trans h.ds.blk
 have hB := h4 0 w1 (Nat.zero_le _) (Below.refl 0 w1)
 refine ⟨⟨h1, ?_, ?_, ?_⟩, h.ch.trans ⟨hB.os.trans hg.os, hB.tape.trans hg.tape, hB.output.trans hg.output, by rw [h3]; exact hg.size, fun k hk hkD hkv => (h2 k hkD).trans (hg.block k hk hkv), ?_⟩⟩
 ·rw [hl]; exact R_past (Kd.R_over h.ds.hl h.ds.hb (by decide) hg) hD1 (by decide) h2
 ·rw [hgl]; exact R_past (Kd.R_over h.ds.hg h.ds.hb (by decide) hg) hD1 (by decide) h2
 ·rw [hb]; exact R_past hR hD1 (by decide) h2
 ·rcases hat with e | ⟨b, e, hb⟩
  ·exact .inl e
  ·exact .inr (.inr ⟨b, e, hb⟩)
theorem ev_form {w : World} {ev : EvV} {cs : Array Value} (h : EvR w ev cs) : cs.size = evA.size ∧ (Tryz.prog.info? 35).map (·.size) = some cs.size ∧ cs.all (·.oneCell') = true := by
 have hi : (Tryz.prog.info? 35).map (·.size) = some 16 := by kernel_rfl
 cases ev with
 | none => obtain rfl : cs = evA := h; exact ⟨rfl, hi, by kernel_rfl⟩
 | item x =>
  obtain ⟨v, rfl, hv⟩ := h
  exact ⟨rfl, hi, evI_one x v (R_one hv)⟩
 | data l =>
  obtain ⟨v, rfl, hv⟩ := h
  have h1 := R_one hv
  refine ⟨rfl, hi, ?_⟩
  simp [Value.oneCell'] at h1 ⊢
  exact h1
 | fin => obtain rfl : cs = evE := h; exact ⟨rfl, hi, by kernel_rfl⟩
theorem ev_past {w w2 : World} {ev : EvV} {cs cells : Array Value} {g : Nat} (h : EvR w ev cs) (hb : w.heap[g]? = some (.cells cells 35 (0, 0))) (h2 : ∀ k, k ≠ g → w2.heap[k]? = w.heap[k]?) : EvR w2 ev cs := by
 cases ev with
 | none => exact h
 | item x =>
  obtain ⟨v, e, hv⟩ := h
  exact ⟨v, e, R_past hv hb (by decide) h2⟩
 | data l =>
  obtain ⟨v, e, hv⟩ := h
  exact ⟨v, e, R_past hv hb (by decide) h2⟩
 | fin => exact h
theorem st_load_fld {P : Program} {ops : Array Oper} {oi : Oper} {a : Act} {w : World} {Q : Exit → Act → World → Prop} {K : Act → World → Prop} {N : Tmp} (ty : TypeId) (x : Operand) (B j : Nat) (v : Value) {cs : Array Value} {t : TypeId} {fr : Nat × Nat} (hb : w.heap[B]? = some (.cells cs t fr)) (hj : cs[j]? = some v) (d : TypeDesc) (hu : P.underlying ty = some d)
  (h : K (a.put (some N) v) w) (hw : Region.wanted oi (yielded ops a.tmps) = true := by rfl) (hN : oi.dst = some N := by exact rfl) (ho : oi.op = .load ty x := by exact rfl) (hx : a.eval x = .pointer (some ⟨B, j, none⟩) := by rfl)
  (hd : d.isRow = false := by rfl) : if Region.wanted oi (yielded ops a.tmps) = true then Oper.wp P oi a w K Q else K (a.put (some N) undef) w :=
 value_ hw hN (by
  unfold execOp
  simp only [ho, hx, Instr.loadAt, Instr.sureAddr, Sem.run_bind, Sem.run_pure, Result.andThen_ok, run_load_fld w B j t ty cs v fr hb hj d hu hd]) h
theorem C_chg {k : IntKind} {A : Option Addr} {n : Nat} {xs : List Int} {v v' : Value} (h : Kd.C (Kd.int k) w A n xs) (c : Chg w w1 D v v') (hs : ∀ ad, A = some ad → ad.block ≠ D ∧ some ad.block ≠ v.ownBlock) : Kd.C (Kd.int k) w1 A n xs :=
 ⟨h.1, h.2.1, fun hn => by
  obtain ⟨ad, e, hc⟩ := h.2.2 hn
  refine ⟨ad, e, fun j p hj => ?_⟩
  obtain ⟨cc, hs2, hr, hcell⟩ := hc j p hj
  refine ⟨cc, hs2, hr, fun i u hu => ?_⟩
  have h0 := hcell i u hu
  have hbk : (ad.add (j * (Kd.int k).sz + i)).block = ad.block := by unfold Addr.add; split <;> rfl
  have hlt := World.block_lt_of_cell? w _ h0
  have := hs ad e
  exact (World.cell?_of_block (c.block _ hlt (by rw [hbk]; exact this.1) (by rw [hbk]; exact this.2))).trans h0⟩
set_option maxRecDepth 100000 in
set_option maxHeartbeats 12800000 in
theorem block_calls (h : DT w0 v0 w D d vl vg vb) (hq : DG w D vb) (hs6 : 6 ≤ w.heap.size) (hi : DI d) (A0 : Option Addr) (c0 : Nat) (l0 : List Int) (hr0 : Kd.C (Kd.int .u8) w A0 l0.length l0) (hc0 : l0.length ≤ c0) (hl : l0.length = 512) (hb : byteL l0 = true) (hsep : ∀ ad, A0 = some ad → ad.block ≠ D ∧ some ad.block ≠ vb.ownBlock) :
  Calls Tryz.prog 11 #[.pointer (some ⟨D, 0, none⟩), .slice A0 l0.length c0] w fun e w' => HeadPost w0 v0 D (blkC d l0) e w' := by
 have hu := Tryz.underlying22
 have hHT := h.ds.start.below (below_alloc (Below.refl w.heap.size w) (.cells evA 35))
 have HT := Lib.hid hHT
 have HR := Lib.hid (heap_alloc_new w (.cells evA 35))
 have HS0 := Lib.hid (Nat.le_refl w.heap.size)
 have HD := Lib.hid (show w.heap.size ≠ D from Nat.ne_of_gt h.ds.lt)
 have HNO : Hid (∀ {W : World} {dd : Dc} {a b c : Value} {cs : Array Value}, DS W D dd a b c → W.heap[w.heap.size]? = some (.cells cs 35 (0, 0)) → some w.heap.size ≠ c.ownBlock) := Lib.hid (fun hds hh => DS_own_ne hds hh (by decide))
 have HQ := Lib.hid hq
 have HS6 := Lib.hid hs6
 have HI := Lib.hid hi
 have HH := Lib.hid h
 have HHC : Hid (∀ {W : World}, Chg w W D vb vb → True) := Lib.hid (fun _ => trivial)
 have HR0 := Lib.hid hr0
 have HC0 := Lib.hid hc0
 have HL0 := Lib.hid hl
 have HB0 := Lib.hid hb
 have HSEP := Lib.hid hsep
 have hbl0 := hi.bl.1
 have hbl1 := hi.bl.2
 obtain ⟨R, hR⟩ : ∃ R, blkC d l0 = R := ⟨_, rfl⟩
 rw [hR]
 have HRR := Lib.hid hR
 rw [hl]
 clear h hHT hq hs6 hi hr0 hc0 hl hb hsep hR
 cases h5 : (d.st == 5) with
 | true =>
  have E5 := Lib.hid (show d.st = 5 from eq_of_beq h5)
  obtain rfl : R = (d, .none, d.fc) := by rw [← HRR.out]; unfold blkC; rw [if_pos E5.out]
  clear E5
  have cst : (w.alloc (.cells evA 35)).cell? ⟨D, 0, none⟩ = some (.int .i64 d.st) := blk_cell HT.out.ds.blk 0
  go_enter Tryz.func11, Tryz.ntmps11
  go_wp2_with fail
  refine start_ (n := 8) (S := fun w' => w'.cell? ⟨D, 2, none⟩ = some (.int .u8 d.fc)) (ds := []) #[false, false, false, false, false, false, false, false] (by kernel_rfl) rfl rfl (blk_cell (HT.out.below ((Below.refl _ _).drew)).ds.blk 2) (fun hHeld => ?_); refine with_tabW dBlk.tab6 dBlk.bits6 (fun HT_ HW_ => ?_)
  replace HR := Lib.hid (blk_drew HR.out)
  replace HT := Lib.hid (HT.out.below ((Below.refl _ _).drew))
  generalize World.drew _ = w3 at HR HT hHeld ⊢
  refine Zp 0 23 (Zb 8 1) HT_ ?_
  refine Zp 1 24 (Zb 8 3) HT_ ?_
  refine Zp 2 25 (Zb 8 7) HT_ ?_
  refine Zp 3 26 (Zb 8 15) HT_ ?_
  refine Zp 4 27 (Zb 8 31) HT_ ?_
  refine Zt 5 28 (Zb 8 63) HT_ HW_ hHeld ?_
  refine one_ (i := 6) (N := none) (Zb 8 127) rfl rfl (one_of HT_.out (by kernel_rfl)) (by decide) (fun K hK => ?_)
  refine st_store_blk 35 (.tmp 4) (.tmp 23) w.heap.size evA HR.out ?_
  intro w9 h1 h2 h3 h4
  replace HT := Lib.hid (HT.out.other HR.out rfl HS0.out h2 h3 h4)
  replace HR := Lib.hid h1
  clear h1 h2 h3 h4
  refine hK.out _ _ (blk_cell HT.out.ds.blk 2) (fun hHeld => ?_)
  clear hK K
  refine Zp 7 5 (Zb 8 255) HT_ ?_
  refine Zq HT_ ?_
  clear HT_ HW_
  go_wp2_with fail
  refine bodyPost_ret (results_blk rfl _ _ w.heap.size 35 evA (0, 0) _ (.int .u8 d.fc) rfl HR.out rfl Tryz.underlying35 rfl (by kernel_rfl)) rfl ⟨_, _, _, _, rfl, rfl, HH.out.trans HT.out⟩
 | false =>
  have N5 := Lib.hid (show ¬ d.st = 5 from beq_eq_false_iff_ne.1 h5)
  cases h4 : (d.st == 4) with
  | true =>
   have E4 := Lib.hid (show d.st = 4 from eq_of_beq h4)
   obtain rfl : R = (d, .none, 0) := by rw [← HRR.out]; unfold blkC; rw [if_neg N5.out, if_pos E4.out]
   clear E4
   have cst : (w.alloc (.cells evA 35)).cell? ⟨D, 0, none⟩ = some (.int .i64 d.st) := blk_cell HT.out.ds.blk 0
   go_enter Tryz.func11, Tryz.ntmps11
   go_wp2_with first
    | ((with_reducible refine wpList_store_blk rfl 35 (.tmp 4) (.tmp 35) rfl w.heap.size evA rfl rfl HR.out rfl (by kernel_rfl) (by kernel_rfl) ?_); intro w9 h1 h2 h3 h4; replace HT := Lib.hid (HT.out.other HR.out rfl HS0.out h2 h3 h4); replace HR := Lib.hid h1; clear h1 h2 h3 h4)
   refine bodyPost_ret (results_blk rfl _ _ w.heap.size 35 evA (0, 0) _ (.int .u8 0) rfl HR.out rfl Tryz.underlying35 rfl (by kernel_rfl)) rfl ⟨_, _, _, _, rfl, rfl, HH.out.trans HT.out⟩
  | false =>
   have N4 := Lib.hid (show ¬ d.st = 4 from beq_eq_false_iff_ne.1 h4)
   have c1 : (w.alloc (.cells evA 35)).cell? ⟨D, 1, none⟩ = some (.int .i64 d.blocks) := blk_cell HT.out.ds.blk 1
   cases h1 : (d.st == 1) with
   | true =>
    have E1 := Lib.hid (show d.st = 1 from eq_of_beq h1)
    have HO1 := Lib.hid (HI.out.one E1.out)
    obtain ⟨A3, k3, hvb, n3, _⟩ := Kd.R_reads HT.out.ds.hb
    subst hvb
    by_cases hm : 512 < d.left
    ·obtain rfl : R = ({ d with blocks := d.blocks + 1, buf := d.buf ++ l0, left := d.left - 512 }, .none, 0) := by rw [← HRR.out]; unfold blkC; rw [if_neg N5.out, if_neg N4.out, if_pos E1.out, if_pos hm]
     have hm1 : ((512 : Int) < d.left) = True := eq_true hm
     have hle : d.left ≤ 65536 := HO1.out.2.1
     have hpos : (0 : Int) < d.left - 512 := by omega
     have HWR := Lib.hid (show wrap64 (d.left-512) = d.left-512 from w64 _ (by omega) (by omega))
     have hcq : ((512 : Int) ≤ (c0 : Int)) = True := eq_true (by have := HC0.out; have := HL0.out; omega)
     have HSRC : Hid (∀ W v', Chg w W D (.slice A3 d.buf.length k3) v' → Kd.C kB W A0 512 l0) := Lib.hid (fun W v' hc => by have := C_chg HR0.out hc HSEP.out; rw [HL0.out] at this; exact this)
     have HLEN := Lib.hid (show (d.buf.length + 512) * 1 ≤ 140737488355328 by have := HI.out.gl; omega)
     have cst : (w.alloc (.cells evA 35)).cell? ⟨D, 0, none⟩ = some (.int .i64 d.st) := blk_cell HT.out.ds.blk 0
     go_enter Tryz.func11, Tryz.ntmps11
     go_wp2_with first
      | ((with_reducible refine wpList_store_fld rfl 2 (.tmp 46) (.tmp 44) rfl D 1 (.int .i64 (d.blocks + 1)) rfl rfl HT.out.ds.blk (by kernel_rfl) (by kernel_rfl) rfl ?_); intro w3 h1 h2 h3 h4; replace HR := Lib.hid ((h2 _ HD.out).trans HR.out); replace HT := Lib.hid (HT.out.same (d' := { d with blocks := d.blocks + 1 }) (by rw [dset_blocks] at h1; exact h1) h2 h3 h4); clear h1 h2 h3 h4; have c3 : w3.cell? ⟨D, 0, none⟩ = some (.int .i64 d.st) := blk_cell HT.out.ds.blk 0; have c17 : w3.cell? ⟨D, 17, none⟩ = some (.int .i64 d.left) := blk_cell HT.out.ds.blk 17)
     refine start_ (n := 16) (S := fun w' => w'.cell? ⟨D, 17, none⟩ = some (.int .i64 d.left)) (ds := []) #[false, false, false, false, false, false, false, false, false, false, false, false, false, false, false, false] (by kernel_rfl) rfl rfl (blk_cell (HT.out.below ((Below.refl _ w3).drew)).ds.blk 17) (fun hHeld => ?_); refine with_tabW dBlk.tab13 dBlk.bits13 (fun HT_ HW_ => ?_)
     replace HR := Lib.hid (blk_drew HR.out)
     replace HT := Lib.hid (HT.out.below ((Below.refl _ w3).drew))
     generalize w3.drew = w4 at HR HT hHeld ⊢
     refine Zp 0 53 (Zb 16 1) HT_ ?_
     refine Zp 1 54 (Zb 16 3) HT_ ?_
     refine Zp 2 55 (Zb 16 7) HT_ ?_
     refine Zp 3 56 (Zb 16 15) HT_ ?_
     refine Zp 5 58 (Zb 16 47) HT_ ?_
     refine Zp 6 59 (Zb 16 111) HT_ ?_
     refine Zp 7 60 (Zb 16 239) HT_ ?_
     refine Zp 8 61 (Zb 16 495) HT_ ?_
     refine Zt 9 62 (Zb 16 1007) HT_ HW_ hHeld ?_
     refine Zp 10 63 (Zb 16 2031) HT_ ?_
     refine Zp 11 64 (Zb 16 4079) HT_ ?_
     refine Zo 4 57 (Zb 16 4095) HT_ fun K hK => ?_
     refine st_load_fld 22 (.tmp 56) D 16 (.slice A3 d.buf.length k3) HT.out.ds.blk rfl _ hu ?_
     refine hK.out _ _ (blk_cell HT.out.ds.blk 17) (fun hHeld => ?_)
     clear hK K
     refine Zn ?_
     refine Zo 12 65 (Zb 16 8191) HT_ fun K hK => ?_
     refine Kd.R_append_rows_step kB (Rr := kB.K w4) (w0 := w4) 0 rfl (.tmp 57) (.tmp 64) 22 5 (.int .u8 0) 1 rfl hu (by kernel_rfl) rfl (by decide) (by omega) (.slice A3 d.buf.length k3) d.buf l0 _ _ _ (fun _ => True) (fun _ => False) rfl rfl ?aO ?aR (fun q cs hq => hq) (fun _ h => h.elim) ?aF ?aB ?aS ?aL ?_
     case aR => exact HSRC.out w4 _ HT.out.ch
     case aB => exact Below.refl _ _
     case aF => exact (fun _ _ => trivial)
     case aO => exact HT.out.ds.hb
     case aS => exact Nat.zero_le _
     case aL => exact HLEN.out
     intro v5 w5 ho hb5 hg5 hat5
     have HRN := Lib.hid ((hg5.block _ (blk_lt HR.out) (HNO.out HT.out.ds HR.out)).trans HR.out)
     have HDB := Lib.hid ((hg5.block _ HT.out.ds.lt (DS_own_ne HT.out.ds HT.out.ds.blk (by decide))).trans HT.out.ds.blk)
     have HAPP := Lib.hid (And.intro ho (And.intro hg5 hat5))
     clear ho hb5 hg5 hat5
     refine hK.out _ _ (blk_cell HDB.out 17) (fun hHeld => ?_)
     clear hK K
     refine Zn ?_
     refine Zp 13 66 (Zb 16 16383) HT_ ?_
     refine Zp 14 67 (Zb 16 32767) HT_ ?_
     refine one_ (i := 15) (N := none) (Zb 16 65535) rfl rfl (one_of HT_.out (by kernel_rfl)) (by decide) (fun K hK => ?_)
     refine st_store_fld 22 (.tmp 67) (.tmp 65) D 16 v5 HDB.out ?_ (h1 := R_one HAPP.out.1)
     intro w6 h1 h2 h3 h4
     replace HT := Lib.hid (HT.out.app (d' := { d with blocks := d.blocks + 1, buf := d.buf ++ l0 }) HAPP.out.1 HAPP.out.2.1 HAPP.out.2.2 (by rw [dset_buf _ _ _ _ _ (d.buf ++ l0)] at h1; exact h1) h2 h3 h4 rfl rfl rfl)
     replace HR := Lib.hid ((h2 _ HD.out).trans HRN.out)
     clear h1 h2 h3 h4 HRN HDB HAPP
     refine hK.out _ _ (blk_cell HT.out.ds.blk 17) (fun hHeld => ?_)
     clear hK K
     refine Zq HT_ ?_
     clear HT_ HW_
     go_wp2_with fail
     refine start_ (n := 13) (S := fun w' => True) (ds := []) #[false, false, false, false, false, false, false, false, false, false, false, false, false] (by kernel_rfl) rfl rfl trivial (fun hHeld => ?_); refine with_tabW dBlk.tab14 dBlk.bits14 (fun HT_ HW_ => ?_)
     replace HR := Lib.hid (blk_drew HR.out)
     replace HT := Lib.hid (HT.out.below ((Below.refl _ w6).drew))
     generalize w6.drew = w7 at HR HT hHeld ⊢
     refine Zp 0 68 (Zb 13 1) HT_ ?_
     refine Zp 1 69 (Zb 13 3) HT_ ?_
     refine Zp 2 70 (Zb 13 7) HT_ ?_
     refine Zp 4 72 (Zb 13 23) HT_ ?_
     refine Zp 5 73 (Zb 13 55) HT_ ?_
     refine Zp 6 74 (Zb 13 119) HT_ ?_
     refine join_ (σ := Unit) 1 (Zb 13 4095) (fun _ => [(71, .int .i64 d.left), (75, .int .i64 d.left), (76, .int .i64 512), (77, .int .i64 (wrap64 (d.left-512))), (78, .pointer (some ⟨D, 0, none⟩)), (79, .pointer (some ⟨D, 17, none⟩))]) (fun _ w' => w' = w7) ?_ ?_
     rotate_left
     ·intro hCont
      refine two_ (i := 3) (j := 7) (Ni := some 71) (Nj := some 75) #[true, true, true, true, true, true, true, false, false, false, false, false, false] #[true, true, true, false, true, true, true, true, false, false, false, false, false] rfl rfl rfl rfl (two_of HT_.out (by kernel_rfl)) (by decide) (by decide) (fun K hK => ?_) (fun K hK => ?_)
      ·skip
       refine st_load_fld 2 (.tmp 70) D 17 (.int .i64 d.left) HT.out.ds.blk rfl _ Tryz.underlying2 ?_
       refine hK.out _ _ trivial (fun hHeld => ?_)
       clear hK K
       refine Zn ?_
       refine Zo 7 75 (Zb 13 255) HT_ fun K hK => ?_
       refine st_load_fld 2 (.tmp 74) D 17 (.int .i64 d.left) HT.out.ds.blk rfl _ Tryz.underlying2 ?_
       refine hK.out _ _ trivial (fun hHeld => ?_)
       clear hK K
       refine Zn ?_
       refine Zp 8 76 (Zb 13 511) HT_ ?_
       refine Zp 9 77 (Zb 13 1023) HT_ ?_
       refine Zp 10 78 (Zb 13 2047) HT_ ?_
       refine Zp 11 79 (Zb 13 4095) HT_ ?_
       exact norm_ (by first | (simp only [putAll, Act.put, List.setIfInBounds_toArray, List.set_cons_zero, List.set_cons_succ]; done) | (simp only [putAll, Act.put, List.setIfInBounds_toArray, List.set_cons_zero, List.set_cons_succ]; rfl)) (hCont () _ rfl)
      ·skip
       refine st_load_fld 2 (.tmp 74) D 17 (.int .i64 d.left) HT.out.ds.blk rfl _ Tryz.underlying2 ?_
       refine hK.out _ _ trivial (fun hHeld => ?_)
       clear hK K
       refine Zn ?_
       refine Zp 8 76 (Zb 13 503) HT_ ?_
       refine Zo 3 71 (Zb 13 511) HT_ fun K hK => ?_
       refine st_load_fld 2 (.tmp 70) D 17 (.int .i64 d.left) HT.out.ds.blk rfl _ Tryz.underlying2 ?_
       refine hK.out _ _ trivial (fun hHeld => ?_)
       clear hK K
       refine Zn ?_
       refine Zp 9 77 (Zb 13 1023) HT_ ?_
       refine Zp 10 78 (Zb 13 2047) HT_ ?_
       refine Zp 11 79 (Zb 13 4095) HT_ ?_
       exact norm_ (by first | (simp only [putAll, Act.put, List.setIfInBounds_toArray, List.set_cons_zero, List.set_cons_succ]; done) | (simp only [putAll, Act.put, List.setIfInBounds_toArray, List.set_cons_zero, List.set_cons_succ]; rfl)) (hCont () _ rfl)
     rintro _ w8 rfl
     refine norm_ (a' := ?_) ?_ ?_
     rotate_left
     ·simp only [putAll, Act.put, List.setIfInBounds_toArray, List.set_cons_zero, List.set_cons_succ]
      rfl
     refine one_ (i := 12) (N := none) (Zb 13 8191) rfl rfl (one_of HT_.out (by kernel_rfl)) (by decide) (fun K hK => ?_)
     refine st_store_fld 2 (.tmp 79) (.tmp 77) D 17 (.int .i64 (wrap64 (d.left-512))) HT.out.ds.blk ?_
     intro w12 h1 h2 h3 h4
     replace HR := Lib.hid ((h2 _ HD.out).trans HR.out)
     replace HT := Lib.hid (HT.out.same (d' := { d with blocks := d.blocks + 1, buf := d.buf ++ l0, left := (d.left-512) }) (by rw [dset_left, HWR.out] at h1; exact h1) h2 h3 h4)
     clear h1 h2 h3 h4
     refine hK.out _ _ trivial (fun hHeld => ?_)
     clear hK K
     refine Zq HT_ ?_
     clear HT_ HW_
     have c17 : w12.cell? ⟨D, 17, none⟩ = some (.int .i64 (d.left-512)) := blk_cell HT.out.ds.blk 17
     have hdp : decide (0 < d.left-512) = true := decide_eq_true hpos
     go_wp2_with first
      | ((with_reducible refine wpList_store_blk rfl 35 (.tmp 4) (.tmp 85) rfl w.heap.size evA rfl rfl HR.out rfl (by kernel_rfl) (by kernel_rfl) ?_); intro w9 h1 h2 h3 h4; replace HT := Lib.hid (HT.out.other HR.out rfl HS0.out h2 h3 h4); replace HR := Lib.hid h1; clear h1 h2 h3 h4)
     refine bodyPost_ret (results_blk rfl _ _ w.heap.size 35 evA (0, 0) _ (.int .u8 0) rfl HR.out rfl Tryz.underlying35 rfl (by kernel_rfl)) rfl ⟨_, _, _, _, rfl, rfl, HH.out.trans HT.out⟩
    ·have hps := HO1.out.1
     have hle5 : d.left ≤ 512 := by omega
     have hm1 : ((512 : Int) < d.left) = False := eq_false hm
     obtain ⟨src, hsrc⟩ : ∃ src, l0.take d.left.toNat = src := ⟨_, rfl⟩
     have HRB : Hid (R = ((extC { d with blocks := d.blocks + 1, buf := d.buf ++ src, left := 0 }).1, .none, (extC { d with blocks := d.blocks + 1, buf := d.buf ++ src, left := 0 }).2)) := Lib.hid (by rw [← HRR.out]; unfold blkC; rw [if_neg N5.out, if_neg N4.out, if_pos E1.out, if_neg hm, hsrc])
     have hsl : src.length = d.left.toNat := by rw [← hsrc, List.length_take, HL0.out]; omega
     have hq0 : ((0 : Int) ≤ d.left) = True := eq_true (by omega)
     have hq1 : (d.left ≤ (c0 : Int)) = True := eq_true (by have := HC0.out; have := HL0.out; omega)
     have HSRC : Hid (∀ W v', Chg w W D (.slice A3 d.buf.length k3) v' → Kd.C kB W A0 d.left.toNat src) := Lib.hid (fun W v' hc => by have := Kd.C_take (m := d.left.toNat) (C_chg HR0.out hc HSEP.out) (by rw [HL0.out]; omega); rw [hsrc, hsl] at this; exact this)
     have HLEN := Lib.hid (show (d.buf.length + d.left.toNat) * 1 ≤ 140737488355328 by have := HI.out.gl; omega)
     have HBY := Lib.hid (show byteL (d.buf ++ src) = true by rw [byteL_iff]; intro c hc; rcases List.mem_append.1 hc with h | h; exact byteL_iff.1 HO1.out.2.2.1 c h; rw [← hsrc] at h; exact byteL_iff.1 HB0.out c (List.mem_of_mem_take h))
     have HSL := Lib.hid (show src.length ≤ 512 by omega)
     have HWR := Lib.hid (show wrap64 0 = 0 from w64 0 (by decide) (by decide))
     clear hsrc hsl
     have cst : (w.alloc (.cells evA 35)).cell? ⟨D, 0, none⟩ = some (.int .i64 d.st) := blk_cell HT.out.ds.blk 0
     go_enter Tryz.func11, Tryz.ntmps11
     go_wp2_with first
      | ((with_reducible refine wpList_store_fld rfl 2 (.tmp 46) (.tmp 44) rfl D 1 (.int .i64 (d.blocks + 1)) rfl rfl HT.out.ds.blk (by kernel_rfl) (by kernel_rfl) rfl ?_); intro w3 h1 h2 h3 h4; replace HR := Lib.hid ((h2 _ HD.out).trans HR.out); replace HT := Lib.hid (HT.out.same (d' := { d with blocks := d.blocks + 1 }) (by rw [dset_blocks] at h1; exact h1) h2 h3 h4); clear h1 h2 h3 h4; have c3 : w3.cell? ⟨D, 0, none⟩ = some (.int .i64 d.st) := blk_cell HT.out.ds.blk 0; have c17 : w3.cell? ⟨D, 17, none⟩ = some (.int .i64 d.left) := blk_cell HT.out.ds.blk 17)
     refine start_ (n := 16) (S := fun w' => w'.cell? ⟨D, 17, none⟩ = some (.int .i64 d.left)) (ds := []) #[false, false, false, false, false, false, false, false, false, false, false, false, false, false, false, false] (by kernel_rfl) rfl rfl (blk_cell (HT.out.below ((Below.refl _ w3).drew)).ds.blk 17) (fun hHeld => ?_); refine with_tabW dBlk.tab13 dBlk.bits13 (fun HT_ HW_ => ?_)
     replace HR := Lib.hid (blk_drew HR.out)
     replace HT := Lib.hid (HT.out.below ((Below.refl _ w3).drew))
     generalize w3.drew = w4 at HR HT hHeld ⊢
     refine Zp 0 53 (Zb 16 1) HT_ ?_
     refine Zp 1 54 (Zb 16 3) HT_ ?_
     refine Zp 2 55 (Zb 16 7) HT_ ?_
     refine Zp 3 56 (Zb 16 15) HT_ ?_
     refine Zp 5 58 (Zb 16 47) HT_ ?_
     refine Zp 6 59 (Zb 16 111) HT_ ?_
     refine Zp 7 60 (Zb 16 239) HT_ ?_
     refine Zp 8 61 (Zb 16 495) HT_ ?_
     refine Zt 9 62 (Zb 16 1007) HT_ HW_ hHeld ?_
     refine Zp 10 63 (Zb 16 2031) HT_ ?_
     refine Zp 11 64 (Zb 16 4079) HT_ ?_
     refine Zo 4 57 (Zb 16 4095) HT_ fun K hK => ?_
     refine st_load_fld 22 (.tmp 56) D 16 (.slice A3 d.buf.length k3) HT.out.ds.blk rfl _ hu ?_
     refine hK.out _ _ (blk_cell HT.out.ds.blk 17) (fun hHeld => ?_)
     clear hK K
     refine Zn ?_
     refine Zo 12 65 (Zb 16 8191) HT_ fun K hK => ?_
     refine Kd.R_append_rows_step kB (Rr := kB.K w4) (w0 := w4) 0 rfl (.tmp 57) (.tmp 64) 22 5 (.int .u8 0) 1 rfl hu (by kernel_rfl) rfl (by decide) (by omega) (.slice A3 d.buf.length k3) d.buf src _ _ _ (fun _ => True) (fun _ => False) rfl rfl ?aO ?aR (fun q cs hq => hq) (fun _ h => h.elim) ?aF ?aB ?aS ?aL ?_
     case aR => exact HSRC.out w4 _ HT.out.ch
     case aB => exact Below.refl _ _
     case aF => exact (fun _ _ => trivial)
     case aO => exact HT.out.ds.hb
     case aS => exact Nat.zero_le _
     case aL => exact HLEN.out
     intro v5 w5 ho hb5 hg5 hat5
     have HRN := Lib.hid ((hg5.block _ (blk_lt HR.out) (HNO.out HT.out.ds HR.out)).trans HR.out)
     have HDB := Lib.hid ((hg5.block _ HT.out.ds.lt (DS_own_ne HT.out.ds HT.out.ds.blk (by decide))).trans HT.out.ds.blk)
     have HAPP := Lib.hid (And.intro ho (And.intro hg5 hat5))
     clear ho hb5 hg5 hat5
     refine hK.out _ _ (blk_cell HDB.out 17) (fun hHeld => ?_)
     clear hK K
     refine Zn ?_
     refine Zp 13 66 (Zb 16 16383) HT_ ?_
     refine Zp 14 67 (Zb 16 32767) HT_ ?_
     refine one_ (i := 15) (N := none) (Zb 16 65535) rfl rfl (one_of HT_.out (by kernel_rfl)) (by decide) (fun K hK => ?_)
     refine st_store_fld 22 (.tmp 67) (.tmp 65) D 16 v5 HDB.out ?_ (h1 := R_one HAPP.out.1)
     intro w6 h1 h2 h3 h4
     replace HT := Lib.hid (HT.out.app (d' := { d with blocks := d.blocks + 1, buf := d.buf ++ src }) HAPP.out.1 HAPP.out.2.1 HAPP.out.2.2 (by rw [dset_buf _ _ _ _ _ (d.buf ++ src)] at h1; exact h1) h2 h3 h4 rfl rfl rfl)
     replace HR := Lib.hid ((h2 _ HD.out).trans HRN.out)
     clear h1 h2 h3 h4 HRN HDB HAPP
     refine hK.out _ _ (blk_cell HT.out.ds.blk 17) (fun hHeld => ?_)
     clear hK K
     refine Zq HT_ ?_
     clear HT_ HW_
     go_wp2_with fail
     refine start_ (n := 13) (S := fun w' => True) (ds := []) #[false, false, false, false, false, false, false, false, false, false, false, false, false] (by kernel_rfl) rfl rfl trivial (fun hHeld => ?_); refine with_tabW dBlk.tab14 dBlk.bits14 (fun HT_ HW_ => ?_)
     replace HR := Lib.hid (blk_drew HR.out)
     replace HT := Lib.hid (HT.out.below ((Below.refl _ w6).drew))
     generalize w6.drew = w7 at HR HT hHeld ⊢
     refine Zp 0 68 (Zb 13 1) HT_ ?_
     refine Zp 1 69 (Zb 13 3) HT_ ?_
     refine Zp 2 70 (Zb 13 7) HT_ ?_
     refine Zp 4 72 (Zb 13 23) HT_ ?_
     refine Zp 5 73 (Zb 13 55) HT_ ?_
     refine Zp 6 74 (Zb 13 119) HT_ ?_
     refine join_ (σ := Unit) 1 (Zb 13 4095) (fun _ => [(71, .int .i64 d.left), (75, .int .i64 d.left), (76, .int .i64 d.left), (77, .int .i64 (wrap64 0)), (78, .pointer (some ⟨D, 0, none⟩)), (79, .pointer (some ⟨D, 17, none⟩))]) (fun _ w' => w' = w7) ?_ ?_
     rotate_left
     ·intro hCont
      refine two_ (i := 3) (j := 7) (Ni := some 71) (Nj := some 75) #[true, true, true, true, true, true, true, false, false, false, false, false, false] #[true, true, true, false, true, true, true, true, false, false, false, false, false] rfl rfl rfl rfl (two_of HT_.out (by kernel_rfl)) (by decide) (by decide) (fun K hK => ?_) (fun K hK => ?_)
      ·skip
       refine st_load_fld 2 (.tmp 70) D 17 (.int .i64 d.left) HT.out.ds.blk rfl _ Tryz.underlying2 ?_
       refine hK.out _ _ trivial (fun hHeld => ?_)
       clear hK K
       refine Zn ?_
       refine Zo 7 75 (Zb 13 255) HT_ fun K hK => ?_
       refine st_load_fld 2 (.tmp 74) D 17 (.int .i64 d.left) HT.out.ds.blk rfl _ Tryz.underlying2 ?_
       refine hK.out _ _ trivial (fun hHeld => ?_)
       clear hK K
       refine Zn ?_
       refine Zp 8 76 (Zb 13 511) HT_ ?_
       refine Zp 9 77 (Zb 13 1023) HT_ ?_
       refine Zp 10 78 (Zb 13 2047) HT_ ?_
       refine Zp 11 79 (Zb 13 4095) HT_ ?_
       exact norm_ (by first | (simp only [putAll, Act.put, List.setIfInBounds_toArray, List.set_cons_zero, List.set_cons_succ]; done) | (simp only [putAll, Act.put, List.setIfInBounds_toArray, List.set_cons_zero, List.set_cons_succ]; rfl)) (hCont () _ rfl)
      ·skip
       refine st_load_fld 2 (.tmp 74) D 17 (.int .i64 d.left) HT.out.ds.blk rfl _ Tryz.underlying2 ?_
       refine hK.out _ _ trivial (fun hHeld => ?_)
       clear hK K
       refine Zn ?_
       refine Zp 8 76 (Zb 13 503) HT_ ?_
       refine Zo 3 71 (Zb 13 511) HT_ fun K hK => ?_
       refine st_load_fld 2 (.tmp 70) D 17 (.int .i64 d.left) HT.out.ds.blk rfl _ Tryz.underlying2 ?_
       refine hK.out _ _ trivial (fun hHeld => ?_)
       clear hK K
       refine Zn ?_
       refine Zp 9 77 (Zb 13 1023) HT_ ?_
       refine Zp 10 78 (Zb 13 2047) HT_ ?_
       refine Zp 11 79 (Zb 13 4095) HT_ ?_
       exact norm_ (by first | (simp only [putAll, Act.put, List.setIfInBounds_toArray, List.set_cons_zero, List.set_cons_succ]; done) | (simp only [putAll, Act.put, List.setIfInBounds_toArray, List.set_cons_zero, List.set_cons_succ]; rfl)) (hCont () _ rfl)
     rintro _ w8 rfl
     refine norm_ (a' := ?_) ?_ ?_
     rotate_left
     ·simp only [putAll, Act.put, List.setIfInBounds_toArray, List.set_cons_zero, List.set_cons_succ]
      rfl
     refine one_ (i := 12) (N := none) (Zb 13 8191) rfl rfl (one_of HT_.out (by kernel_rfl)) (by decide) (fun K hK => ?_)
     refine st_store_fld 2 (.tmp 79) (.tmp 77) D 17 (.int .i64 (wrap64 0)) HT.out.ds.blk ?_
     intro w12 h1 h2 h3 h4
     replace HR := Lib.hid ((h2 _ HD.out).trans HR.out)
     replace HT := Lib.hid (HT.out.same (d' := { d with blocks := d.blocks + 1, buf := d.buf ++ src, left := 0 }) (by rw [dset_left, HWR.out] at h1; exact h1) h2 h3 h4)
     clear h1 h2 h3 h4
     refine hK.out _ _ trivial (fun hHeld => ?_)
     clear hK K
     refine Zq HT_ ?_
     clear HT_ HW_
     have c17 : w12.cell? ⟨D, 17, none⟩ = some (.int .i64 0) := blk_cell HT.out.ds.blk 17
     go_wp2_with fail
     refine (extend_calls HT.out.ds.start (DG.chg HQ.out HS6.out HT.out.ch) (Nat.le_trans HS6.out HT.out.ch.size) HBY.out (by have := HI.out.gl; have := HSL.out; show d.p.glo.length + (d.buf ++ src).length < _; rw [List.length_append]; omega) HO1.out.2.2.2).mono ?_
     rintro e w13 ⟨vl2, vg2, vb2, rfl, hT⟩
     replace HR := Lib.hid ((hT.ch.block _ (blk_lt HR.out) HD.out (HNO.out HT.out.ds HR.out)).trans HR.out)
     replace HT := Lib.hid (HT.out.trans hT)
     clear hT
     obtain ⟨X1, hX1⟩ : ∃ X1, extC { d with blocks := d.blocks + 1, buf := d.buf ++ src, left := 0 } = X1 := ⟨_, rfl⟩
     rw [hX1] at HT HRB ⊢
     clear hX1
     obtain rfl := HRB.out
     go_wp2_with first
      | ((with_reducible refine wpList_store_blk rfl 35 (.tmp 4) (.tmp 88) rfl w.heap.size evA rfl rfl HR.out rfl (by kernel_rfl) (by kernel_rfl) ?_); intro w9 h1 h2 h3 h4; replace HT := Lib.hid (HT.out.other HR.out rfl HS0.out h2 h3 h4); replace HR := Lib.hid h1; clear h1 h2 h3 h4)
     refine bodyPost_ret (results_blk rfl _ _ w.heap.size 35 evA (0, 0) _ (.int .u8 X1.2) rfl HR.out rfl Tryz.underlying35 rfl (by kernel_rfl)) rfl ⟨_, _, _, _, rfl, rfl, HH.out.trans HT.out⟩
   | false =>
    have N1 := Lib.hid (show ¬ d.st = 1 from beq_eq_false_iff_ne.1 h1)
    cases h2 : (d.st == 2) with
    | true =>
     have E2 := Lib.hid (show d.st = 2 from eq_of_beq h2)
     have HO2 := Lib.hid (HI.out.two E2.out)
     by_cases hm : 512 < d.left
     ·obtain rfl : R = ({ d with blocks := d.blocks + 1, left := d.left - 512 }, .data l0, 0) := by rw [← HRR.out]; unfold blkC; rw [if_neg N5.out, if_neg N4.out, if_neg N1.out, if_pos E2.out, if_pos hm]
      have hm1 : ((512 : Int) < d.left) = True := eq_true hm
      have hle : d.left ≤ 9223372036854775807 := HO2.out.2
      have hcq : ((512 : Int) ≤ (c0 : Int)) = True := eq_true (by have := HC0.out; have := HL0.out; omega)
      have HCL : Hid (∀ W v', Chg w W D vb v' → Calls Tryz.prog 30 #[.slice A0 512 c0] W fun e w' => ∃ v0_ : Value, e = .returned (v0_) ∧ Kd.R (Kd.int .u8) 5 w' W.heap.size (fun _ => True) v0_ l0 ∧ Below W.heap.size W w') := Lib.hid (fun W v' hc => by have := clone_bytes A0 c0 l0 W (C_chg HR0.out hc HSEP.out) (by rw [HL0.out]; decide); rw [HL0.out] at this; exact this)
      have hnz : (d.left - 512 == 0) = false := by simp; omega
      have cst : (w.alloc (.cells evA 35)).cell? ⟨D, 0, none⟩ = some (.int .i64 d.st) := blk_cell HT.out.ds.blk 0
      go_enter Tryz.func11, Tryz.ntmps11
      go_wp2_with first
       | ((with_reducible refine wpList_store_fld rfl 2 (.tmp 46) (.tmp 44) rfl D 1 (.int .i64 (d.blocks + 1)) rfl rfl HT.out.ds.blk (by kernel_rfl) (by kernel_rfl) rfl ?_); intro w3 h1 h2 h3 h4; replace HR := Lib.hid ((h2 _ HD.out).trans HR.out); replace HT := Lib.hid (HT.out.same (d' := { d with blocks := d.blocks + 1 }) (by rw [dset_blocks] at h1; exact h1) h2 h3 h4); clear h1 h2 h3 h4; have c3 : w3.cell? ⟨D, 0, none⟩ = some (.int .i64 d.st) := blk_cell HT.out.ds.blk 0; have c17 : w3.cell? ⟨D, 17, none⟩ = some (.int .i64 d.left) := blk_cell HT.out.ds.blk 17)
       | ((with_reducible refine wpList_store_fld rfl 2 (.tmp 104) (.tmp 102) rfl D 17 (.int .i64 (d.left-512)) rfl rfl HT.out.ds.blk (by kernel_rfl) (by kernel_rfl) rfl ?_); intro w4 h1 h2 h3 h4; replace HR := Lib.hid ((h2 _ HD.out).trans HR.out); replace HT := Lib.hid (HT.out.same (d' := { d with blocks := d.blocks + 1, left := (d.left-512) }) (by rw [dset_left] at h1; exact h1) h2 h3 h4); clear h1 h2 h3 h4; have c18 : w4.cell? ⟨D, 17, none⟩ = some (.int .i64 (d.left-512)) := blk_cell HT.out.ds.blk 17)
      refine (HCL.out _ _ HT.out.ch).mono ?_
      rintro e w6 ⟨v6, rfl, hr6, hb6⟩
      obtain ⟨A6, k6, rfl, _, _⟩ := Kd.R_reads hr6
      have HV6 := Lib.hid (show RB w6 (.slice A6 l0.length k6) l0 from Kd.R_mono (Kd.R_lower hr6 (Nat.zero_le _)) (fun _ _ => trivial))
      replace HR := Lib.hid (blk_below HR.out hb6)
      replace HT := Lib.hid (HT.out.below hb6)
      clear hr6 hb6 HCL
      go_wp2_with ((with_reducible refine wpList_store_blk rfl 35 (.tmp 4) (.tmp 117) rfl w.heap.size (evD (.slice A6 l0.length k6)) rfl rfl HR.out rfl (by kernel_rfl) (by kernel_rfl) ?_); intro w9 h1 h2 h3 h4; replace HV6 := Lib.hid (R_past HV6.out HR.out (by decide) h2); replace HT := Lib.hid (HT.out.other HR.out rfl HS0.out h2 h3 h4); replace HR := Lib.hid h1; clear h1 h2 h3 h4)
      refine bodyPost_ret (results_blk rfl _ _ w.heap.size 35 (evD (.slice A6 l0.length k6)) (0, 0) _ (.int .u8 0) rfl HR.out rfl Tryz.underlying35 rfl (by kernel_rfl)) rfl ⟨_, _, _, _, rfl, ⟨_, rfl, HV6.out⟩, HH.out.trans HT.out⟩
     ·have hps := HO2.out.1
      have hle5 : d.left ≤ 512 := by omega
      have hm1 : ((512 : Int) < d.left) = False := eq_false hm
      obtain ⟨src, hsrc⟩ : ∃ src, l0.take d.left.toNat = src := ⟨_, rfl⟩
      obtain rfl : R = ({ d with blocks := d.blocks + 1, left := 0, st := 0 }, .data src, 0) := by rw [← HRR.out]; unfold blkC; rw [if_neg N5.out, if_neg N4.out, if_neg N1.out, if_pos E2.out, if_neg hm, hsrc]
      have hsl : src.length = d.left.toNat := by rw [← hsrc, List.length_take, HL0.out]; omega
      have hq0 : ((0 : Int) ≤ d.left) = True := eq_true (by omega)
      have hq1 : (d.left ≤ (c0 : Int)) = True := eq_true (by have := HC0.out; have := HL0.out; omega)
      have HCL : Hid (∀ W v', Chg w W D vb v' → Calls Tryz.prog 30 #[.slice A0 d.left.toNat c0] W fun e w' => ∃ v0_ : Value, e = .returned (v0_) ∧ Kd.R (Kd.int .u8) 5 w' W.heap.size (fun _ => True) v0_ src ∧ Below W.heap.size W w') := Lib.hid (fun W v' hc => by
       have h1 := Kd.C_take (m := d.left.toNat) (C_chg HR0.out hc HSEP.out) (by rw [HL0.out]; omega)
       rw [hsrc] at h1
       have := clone_bytes A0 c0 src W h1 (by omega)
       rw [hsl] at this
       exact this)
      clear hsrc hsl
      have cst : (w.alloc (.cells evA 35)).cell? ⟨D, 0, none⟩ = some (.int .i64 d.st) := blk_cell HT.out.ds.blk 0
      go_enter Tryz.func11, Tryz.ntmps11
      go_wp2_with first
       | ((with_reducible refine wpList_store_fld rfl 2 (.tmp 46) (.tmp 44) rfl D 1 (.int .i64 (d.blocks + 1)) rfl rfl HT.out.ds.blk (by kernel_rfl) (by kernel_rfl) rfl ?_); intro w3 h1 h2 h3 h4; replace HR := Lib.hid ((h2 _ HD.out).trans HR.out); replace HT := Lib.hid (HT.out.same (d' := { d with blocks := d.blocks + 1 }) (by rw [dset_blocks] at h1; exact h1) h2 h3 h4); clear h1 h2 h3 h4; have c3 : w3.cell? ⟨D, 0, none⟩ = some (.int .i64 d.st) := blk_cell HT.out.ds.blk 0; have c17 : w3.cell? ⟨D, 17, none⟩ = some (.int .i64 d.left) := blk_cell HT.out.ds.blk 17)
       | ((with_reducible refine wpList_store_fld rfl 2 (.tmp 104) (.tmp 102) rfl D 17 (.int .i64 0) rfl rfl HT.out.ds.blk (by kernel_rfl) (by kernel_rfl) rfl ?_); intro w4 h1 h2 h3 h4; replace HR := Lib.hid ((h2 _ HD.out).trans HR.out); replace HT := Lib.hid (HT.out.same (d' := { d with blocks := d.blocks + 1, left := 0 }) (by rw [dset_left] at h1; exact h1) h2 h3 h4); clear h1 h2 h3 h4; have c18 : w4.cell? ⟨D, 17, none⟩ = some (.int .i64 0) := blk_cell HT.out.ds.blk 17)
       | ((with_reducible refine wpList_store_fld rfl 3 (.tmp 112) (.const (.int .i64 0)) rfl D 0 (.int .i64 0) rfl rfl HT.out.ds.blk (by kernel_rfl) (by kernel_rfl) rfl ?_); intro w5 h1 h2 h3 h4; replace HR := Lib.hid ((h2 _ HD.out).trans HR.out); replace HT := Lib.hid (HT.out.same (d' := { d with blocks := d.blocks + 1, left := 0, st := 0 }) (by rw [dset_st] at h1; exact h1) h2 h3 h4); clear h1 h2 h3 h4)
      refine (HCL.out _ _ HT.out.ch).mono ?_
      rintro e w6 ⟨v6, rfl, hr6, hb6⟩
      obtain ⟨A6, k6, rfl, _, _⟩ := Kd.R_reads hr6
      have HV6 := Lib.hid (show RB w6 (.slice A6 src.length k6) src from Kd.R_mono (Kd.R_lower hr6 (Nat.zero_le _)) (fun _ _ => trivial))
      replace HR := Lib.hid (blk_below HR.out hb6)
      replace HT := Lib.hid (HT.out.below hb6)
      clear hr6 hb6 HCL
      go_wp2_with ((with_reducible refine wpList_store_blk rfl 35 (.tmp 4) (.tmp 117) rfl w.heap.size (evD (.slice A6 src.length k6)) rfl rfl HR.out rfl (by kernel_rfl) (by kernel_rfl) ?_); intro w9 h1 h2 h3 h4; replace HV6 := Lib.hid (R_past HV6.out HR.out (by decide) h2); replace HT := Lib.hid (HT.out.other HR.out rfl HS0.out h2 h3 h4); replace HR := Lib.hid h1; clear h1 h2 h3 h4)
      refine bodyPost_ret (results_blk rfl _ _ w.heap.size 35 (evD (.slice A6 src.length k6)) (0, 0) _ (.int .u8 0) rfl HR.out rfl Tryz.underlying35 rfl (by kernel_rfl)) rfl ⟨_, _, _, _, rfl, ⟨_, rfl, HV6.out⟩, HH.out.trans HT.out⟩
    | false =>
     have N2 := Lib.hid (show ¬ d.st = 2 from beq_eq_false_iff_ne.1 h2)
     have HZ := Lib.hid (zero_prog l0 HL0.out 600 (Nat.le_refl _))
     have HZC : Hid (∀ W v', Chg w W D vb v' → Calls Tryz.prog 31 #[.slice A0 512 c0] W fun e w' => e = .returned (.bool (blankV l0)) ∧ Below W.heap.size W w') := Lib.hid (fun W v' hc => by
      have := head_Zero.calls 600 A0 c0 l0 (blankV l0) W (C_chg HR0.out hc HSEP.out) HC0.out HZ.out
      rw [HL0.out] at this
      refine this.mono ?_
      rintro e w' ⟨h1, h2⟩
      exact ⟨h1, h2.below⟩)
     cases h3 : (d.st == 3) with
     | true =>
      have E3 := Lib.hid (show d.st = 3 from eq_of_beq h3)
      have HRB : Hid (R = if blankV l0 = false then failC { d with blocks := d.blocks + 1 } 4 (d.blocks - 1) else edC { d with blocks := d.blocks + 1 }) := Lib.hid (by rw [← HRR.out]; unfold blkC; rw [if_neg N5.out, if_neg N4.out, if_neg N1.out, if_neg N2.out, if_pos E3.out])
      have cst : (w.alloc (.cells evA 35)).cell? ⟨D, 0, none⟩ = some (.int .i64 d.st) := blk_cell HT.out.ds.blk 0
      go_enter Tryz.func11, Tryz.ntmps11
      go_wp2_with first
       | ((with_reducible refine wpList_store_fld rfl 2 (.tmp 46) (.tmp 44) rfl D 1 (.int .i64 (d.blocks + 1)) rfl rfl HT.out.ds.blk (by kernel_rfl) (by kernel_rfl) rfl ?_); intro w3 h1 h2 h3 h4; replace HR := Lib.hid ((h2 _ HD.out).trans HR.out); replace HT := Lib.hid (HT.out.same (d' := { d with blocks := d.blocks + 1 }) (by rw [dset_blocks] at h1; exact h1) h2 h3 h4); clear h1 h2 h3 h4; have c3 : w3.cell? ⟨D, 0, none⟩ = some (.int .i64 d.st) := blk_cell HT.out.ds.blk 0; have c17 : w3.cell? ⟨D, 17, none⟩ = some (.int .i64 d.left) := blk_cell HT.out.ds.blk 17)
      refine (HZC.out _ _ HT.out.ch).mono ?_
      rintro e w5 ⟨rfl, hb5⟩
      replace HR := Lib.hid (blk_below HR.out hb5)
      replace HT := Lib.hid (HT.out.below hb5)
      clear hb5
      cases hbz : blankV l0 with
      | false =>
       obtain rfl : R = failC { d with blocks := d.blocks + 1 } 4 (d.blocks - 1) := by rw [HRB.out, if_pos hbz]
       go_wp2_with fail
       refine (fail_calls HT.out.ds.start _ _).mono ?_
       rintro e w6 ⟨rfl, hT⟩
       replace HR := Lib.hid ((hT.ch.block _ (blk_lt HR.out) HD.out (HNO.out HT.out.ds HR.out)).trans HR.out)
       replace HT := Lib.hid (HT.out.trans hT)
       clear hT
       go_wp2_with first
        | ((with_reducible refine wpList_store_blk rfl 35 (.tmp 4) (.tmp 127) rfl w.heap.size evA rfl rfl HR.out rfl (by kernel_rfl) (by kernel_rfl) ?_); intro w9 h1 h2 h3 h4; replace HT := Lib.hid (HT.out.other HR.out rfl HS0.out h2 h3 h4); replace HR := Lib.hid h1; clear h1 h2 h3 h4)
       refine bodyPost_ret (results_blk rfl _ _ w.heap.size 35 evA (0, 0) _ (.int .u8 4) rfl HR.out rfl Tryz.underlying35 rfl (by kernel_rfl)) rfl ⟨_, _, _, _, rfl, rfl, HH.out.trans HT.out⟩
      | true =>
       have HRC : Hid (R = edC { d with blocks := d.blocks + 1 }) := Lib.hid (by rw [HRB.out, if_neg (by rw [hbz]; decide)])
       go_wp2_with fail
       refine (end_gen HT.out.ds.start _ _ _ _ _ _ rfl rfl rfl rfl rfl rfl (firstX d) rfl).mono ?_
       rintro e w6 hE
       unfold edC at HRC
       cases hF : decide (0 ≤ firstX d) with
       | true =>
        rw [hF, if_pos rfl] at hE
        obtain ⟨rfl, hT⟩ := hE
        obtain rfl : R = failC { d with blocks := d.blocks + 1 } 7 (firstX d) := by rw [HRC.out]; exact if_pos (of_decide_eq_true hF)
        replace HR := Lib.hid ((hT.ch.block _ (blk_lt HR.out) HD.out (HNO.out HT.out.ds HR.out)).trans HR.out)
        replace HT := Lib.hid (HT.out.trans hT)
        clear hT
        go_wp2_with first
         | ((with_reducible refine wpList_store_blk rfl 35 (.tmp 4) (.tmp 131) rfl w.heap.size evA rfl rfl HR.out rfl (by kernel_rfl) (by kernel_rfl) ?_); intro w9 h1 h2 h3 h4; replace HT := Lib.hid (HT.out.other HR.out rfl HS0.out h2 h3 h4); replace HR := Lib.hid h1; clear h1 h2 h3 h4)
        refine bodyPost_ret (results_blk rfl _ _ w.heap.size 35 evA (0, 0) _ (.int .u8 7) rfl HR.out rfl Tryz.underlying35 rfl (by kernel_rfl)) rfl ⟨_, _, _, _, rfl, rfl, HH.out.trans HT.out⟩
       | false =>
        rw [hF, if_neg (by decide)] at hE
        obtain ⟨rfl, hT⟩ := hE
        obtain rfl : R = ({ d with blocks := d.blocks + 1, st := 4 }, .fin, 0) := by rw [HRC.out]; exact if_neg (of_decide_eq_false hF)
        replace HR := Lib.hid ((hT.ch.block _ (blk_lt HR.out) HD.out (HNO.out HT.out.ds HR.out)).trans HR.out)
        replace HT := Lib.hid (HT.out.trans hT)
        clear hT
        go_wp2_with first
         | ((with_reducible refine wpList_store_blk rfl 35 (.tmp 4) (.tmp 131) rfl w.heap.size evE rfl rfl HR.out rfl (by kernel_rfl) (by kernel_rfl) ?_); intro w9 h1 h2 h3 h4; replace HT := Lib.hid (HT.out.other HR.out rfl HS0.out h2 h3 h4); replace HR := Lib.hid h1; clear h1 h2 h3 h4)
        refine bodyPost_ret (results_blk rfl _ _ w.heap.size 35 evE (0, 0) _ (.int .u8 0) rfl HR.out rfl Tryz.underlying35 rfl (by kernel_rfl)) rfl ⟨_, _, _, _, rfl, rfl, HH.out.trans HT.out⟩
     | false =>
      have N3 := Lib.hid (show ¬ d.st = 3 from beq_eq_false_iff_ne.1 h3)
      have HRB : Hid (R = if blankV l0 = true then ({ d with blocks := d.blocks + 1, st := 3 }, .none, 0) else headC { d with blocks := d.blocks + 1 } l0 d.blocks) := Lib.hid (by rw [← HRR.out]; unfold blkC; rw [if_neg N5.out, if_neg N4.out, if_neg N1.out, if_neg N2.out, if_neg N3.out])
      have cst : (w.alloc (.cells evA 35)).cell? ⟨D, 0, none⟩ = some (.int .i64 d.st) := blk_cell HT.out.ds.blk 0
      go_enter Tryz.func11, Tryz.ntmps11
      go_wp2_with first
       | ((with_reducible refine wpList_store_fld rfl 2 (.tmp 46) (.tmp 44) rfl D 1 (.int .i64 (d.blocks + 1)) rfl rfl HT.out.ds.blk (by kernel_rfl) (by kernel_rfl) rfl ?_); intro w3 h1 h2 h3 h4; replace HR := Lib.hid ((h2 _ HD.out).trans HR.out); replace HT := Lib.hid (HT.out.same (d' := { d with blocks := d.blocks + 1 }) (by rw [dset_blocks] at h1; exact h1) h2 h3 h4); clear h1 h2 h3 h4; have c3 : w3.cell? ⟨D, 0, none⟩ = some (.int .i64 d.st) := blk_cell HT.out.ds.blk 0; have c17 : w3.cell? ⟨D, 17, none⟩ = some (.int .i64 d.left) := blk_cell HT.out.ds.blk 17)
      refine (HZC.out _ _ HT.out.ch).mono ?_
      rintro e w5 ⟨rfl, hb5⟩
      replace HR := Lib.hid (blk_below HR.out hb5)
      replace HT := Lib.hid (HT.out.below hb5)
      clear hb5
      cases hbz : blankV l0 with
      | true =>
       obtain rfl : R = ({ d with blocks := d.blocks + 1, st := 3 }, .none, 0) := by rw [HRB.out, if_pos hbz]
       go_wp2_with first
        | ((with_reducible refine wpList_store_fld rfl 3 (.tmp 137) (.const (.int .i64 3)) rfl D 0 (.int .i64 3) rfl rfl HT.out.ds.blk (by kernel_rfl) (by kernel_rfl) rfl ?_); intro w6 h1 h2 h3 h4; replace HR := Lib.hid ((h2 _ HD.out).trans HR.out); replace HT := Lib.hid (HT.out.same (d' := { d with blocks := d.blocks + 1, st := 3 }) (by rw [dset_st] at h1; exact h1) h2 h3 h4); clear h1 h2 h3 h4)
        | ((with_reducible refine wpList_store_blk rfl 35 (.tmp 4) (.tmp 138) rfl w.heap.size evA rfl rfl HR.out rfl (by kernel_rfl) (by kernel_rfl) ?_); intro w9 h1 h2 h3 h4; replace HT := Lib.hid (HT.out.other HR.out rfl HS0.out h2 h3 h4); replace HR := Lib.hid h1; clear h1 h2 h3 h4)
       refine bodyPost_ret (results_blk rfl _ _ w.heap.size 35 evA (0, 0) _ (.int .u8 0) rfl HR.out rfl Tryz.underlying35 rfl (by kernel_rfl)) rfl ⟨_, _, _, _, rfl, rfl, HH.out.trans HT.out⟩
      | false =>
       have HRC : Hid (R = headC { d with blocks := d.blocks + 1 } l0 d.blocks) := Lib.hid (by rw [HRB.out, if_neg (by rw [hbz]; decide)])
       go_wp2_with fail
       have hhd := header_calls (D := D) HT.out.ds.start (DG.chg HQ.out HS6.out HT.out.ch) (Nat.le_trans HS6.out HT.out.ch.size) HI.out.pr A0 c0 l0 (C_chg HR0.out HT.out.ch HSEP.out) HC0.out HL0.out HB0.out d.blocks hbl0
       rw [HL0.out] at hhd
       refine hhd.mono ?_
       clear hhd
       rintro e w6 ⟨cs, vl2, vg2, vb2, rfl, hev, hT⟩
       obtain ⟨X1, hX1⟩ : ∃ X1, headC { d with blocks := d.blocks + 1 } l0 d.blocks = X1 := ⟨_, rfl⟩
       rw [hX1] at hev hT HRC ⊢
       clear hX1
       obtain rfl := HRC.out
       replace HR := Lib.hid ((hT.ch.block _ (blk_lt HR.out) HD.out (HNO.out HT.out.ds HR.out)).trans HR.out)
       replace HT := Lib.hid (HT.out.trans hT)
       have HEV := Lib.hid hev
       have HCS := Lib.hid (ev_form hev)
       clear hT hev
       go_wp2_with ((with_reducible refine wpList_store_blk rfl 35 (.tmp 4) (.tmp 143) rfl w.heap.size cs rfl rfl HR.out HCS.out.1 HCS.out.2.1 HCS.out.2.2 ?_); intro w9 h1 h2 h3 h4; replace HEV := Lib.hid (ev_past HEV.out HR.out h2); replace HT := Lib.hid (HT.out.other HR.out rfl HS0.out h2 h3 h4); replace HR := Lib.hid h1; clear h1 h2 h3 h4)
       refine bodyPost_ret (results_blk rfl _ _ w.heap.size 35 cs (0, 0) _ (.int .u8 R.2.2) rfl HR.out rfl Tryz.underlying35 rfl HCS.out.2.1) rfl ⟨_, _, _, _, rfl, HEV.out, HH.out.trans HT.out⟩
end
end Go.Proofs.YtedglegjghokfaaGreatDoor.P
namespace Go.Proofs.YtedglegjghokfaaGreatDoor.P
open Go.RowKit Go.Proofs.YtedglegjghokfaaGreatDoorW.PrintWords Go.Proofs.YtedglegjghokfaaGreatDoorW.PrintLast Go.Proofs.YtedglegjghokfaaGreatDoorW.PrintMore
open Go.Proofs.YtedglegjghokfaaGreatDoor
set_option linter.unusedVariables false
abbrev mx : Int := 9223372036854775807
theorem dig8_le : ∀ (l : List Int) (n m : Int) (r : List Int), n ≤ mx → dig8 n l = some (m, r) → m ≤ mx
 | [], n, m, r, h, e => by
  rw [dig8] at e
  injection e with e
  injection e with e _
  omega
 | c :: t, n, m, r, h, e => by
  rw [dig8] at e
  split at e
  ·rename_i hc
   split at e
   ·cases e
   ·rename_i hn
    exact dig8_le t _ m r (by show 8 * n + (c - 48) ≤ 9223372036854775807; omega) e
  ·injection e with e
   injection e with e _
   omega
theorem octV_le (l : List Int) : (octV l).1 ≤ mx := by
 unfold octV
 cases e : dig8 0 (l.dropWhile fun c => c == 32) with
 | none => show (0 : Int) ≤ mx; decide
 | some q =>
  obtain ⟨m, r⟩ := q
  have := dig8_le _ _ _ _ (by decide) e
  unfold octF
  dsimp only
  split
  ·exact this
  ·show (0 : Int) ≤ mx; decide
theorem flip_range (s : Bool) (l : List Int) (h : byteL l = true) : ∀ c ∈ l.map (NumLaw.flip s), 0 ≤ c ∧ c ≤ 255 := by
 intro c hc
 obtain ⟨x, hx, rfl⟩ := List.mem_map.1 hc
 have := byteL_iff.1 h x hx
 unfold NumLaw.flip
 split <;> omega
theorem refL_rg : ∀ (l : List Int) (n : Int), (∀ c ∈ l, 0 ≤ c ∧ c ≤ 255) → 0 ≤ n → n ≤ mx → 0 ≤ (NumLaw.refL n l).1 ∧ (NumLaw.refL n l).1 ≤ mx
 | [], n, _, h0, h => ⟨h0, h⟩
 | c :: t, n, hb, h0, h => by
  rw [NumLaw.refL]
  split
  ·exact ⟨Int.le_refl 0, by decide⟩
  ·have := hb c (List.mem_cons_self ..)
   exact refL_rg t _ (fun x hx => hb x (List.mem_cons_of_mem _ hx)) (by omega) (by show 256 * n + c ≤ 9223372036854775807; omega)
theorem wideV_le (l : List Int) (h : byteL l = true) : (wideV l).1 ≤ mx := by
 unfold wideV
 split
 ·show (0 : Int) ≤ mx; decide
 ·have ht : byteL l.tail = true := byteL_iff.2 fun c hc => byteL_iff.1 h c (List.mem_of_mem_tail hc)
  have := refL_rg _ 0 (flip_range (l.headD 0 == 255) l.tail ht) (Int.le_refl 0) (by decide)
  unfold NumLaw.refW
  dsimp only
  split
  ·show (0 : Int) ≤ mx; decide
  ·dsimp only
   split
   ·have h1 := this.1
    show _ ≤ (9223372036854775807 : Int); omega
   ·exact this.2
theorem fieldV_le (l : List Int) (h : byteL l = true) : (fieldV l).1 ≤ mx := by
 unfold fieldV
 split
 ·exact wideV_le l h
 ·exact octV_le l
theorem numV_le (l : List Int) (i : Nat) (h : byteL l = true) : (numV l i).1 ≤ mx := by
 have hc : byteL (cutL l (numAt i).1 (numAt i).2) = true := byteL_iff.2 fun c hc => byteL_iff.1 h c (List.mem_of_mem_take (List.mem_of_mem_drop hc))
 have := fieldV_le _ hc
 unfold numV
 split
 ·split
  ·show (0 : Int) ≤ mx; decide
  ·exact this
 ·show (0 : Int) ≤ mx; decide
theorem nvalV_le (l : List UInt8) : nvalV l ≤ mx := by
 unfold nvalV
 split
 ·rename_i h
  unfold numOK at h
  simp only [Bool.and_eq_true, decide_eq_true_eq] at h
  show _ ≤ (9223372036854775807 : Int)
  omega
 ·decide
theorem step_f6 (h : HdP) (q : Pr) (hh : h.f6 ≤ mx) : (stepH h q).f6 ≤ mx := by
 unfold stepH
 split
 ·unfold sayV
  repeat' split
  all_goals first | exact hh | exact nvalV_le _
 ·exact hh
theorem fold_f6 : ∀ (l : List Pr) (h : HdP), h.f6 ≤ mx → (l.foldl stepH h).f6 ≤ mx
 | [], h, hh => hh
 | q :: t, h, hh => fold_f6 t _ (step_f6 h q hh)
theorem item_f6 (l : List Int) (r : Raw) (p : Pend) (h : byteL l = true) : (itemC l r p).1.f6 ≤ mx := by
 have h0 : (hd0 : HdP).f6 ≤ mx := by decide
 have he : ∀ (x : HdP) (k : Int) (b : Bool), x.f6 ≤ mx → (endV x k b).1.f6 ≤ mx := by
  intro x k b hx
  unfold endV
  split
  ·exact h0
  ·split
   ·exact h0
   ·exact hx
 unfold itemC
 split
 ·exact h0
 ·split
  ·exact h0
  ·refine he _ _ _ ?_
   unfold laidH
   have := fold_f6 (layP p.glo p.loc) (rawH l r (nameC r p) (if 0 ≤ p.aL then p.link else r.link)) (numV_le l 3 h)
   unfold cutL2
   split
   ·exact this
   ·exact this
theorem last_mem : ∀ (l : List Pr) (x : Pr), x ∈ lastL l → x ∈ l
 | [], x, h => h
 | p :: t, x, h => by
  rw [lastL] at h
  split at h
  ·exact List.mem_cons_of_mem _ (last_mem t x h)
  ·rcases List.mem_cons.1 h with rfl | h
   ·exact List.mem_cons_self ..
   ·exact List.mem_cons_of_mem _ (last_mem t x h)
theorem last_len : ∀ (l : List Pr), (lastL l).length ≤ l.length
 | [] => Nat.le_refl _
 | p :: t => by
  have := last_len t
  rw [lastL]
  split
  ·rw [List.length_cons]; omega
  ·rw [List.length_cons, List.length_cons]; omega
theorem sum_mem {α : Type} (f : α → Nat) : ∀ (l : List α) (x : α), x ∈ l → f x ≤ (l.map f).sum
 | y :: t, x, h => by
  rw [List.map_cons, List.sum_cons]
  rcases List.mem_cons.1 h with rfl | h
  ·omega
  ·have := sum_mem f t x h
   omega
theorem pay_right {l : List Int} {ps : List PrP} (h : payV l = some ps) : ps.length ≤ l.length ∧ ∀ x ∈ ps, pOK x = true ∧ x.f0.size + x.f1.size ≤ l.length := by
 refine ⟨pay_len h, ?_⟩
 unfold payV at h
 obtain ⟨q, hq, rfl⟩ := Option.map_eq_some_iff.1 h
 obtain ⟨h1, h2⟩ := recsF_right _ _ _ hq
 rw [bytesOf_len] at h2
 intro x hx
 obtain ⟨y, hy, rfl⟩ := List.mem_map.1 hx
 have h3 := sum_mem (fun p : List UInt8 × List UInt8 => p.1.length + p.2.length) q y hy
 refine ⟨?_, ?_⟩
 ·show pairOK (tx y.1).data.toList (tx y.2).data.toList = true
  rw [tx_data, tx_data]
  exact h1 y hy
 ·show (tx y.1).size + (tx y.2).size ≤ _
  rw [tx_size, tx_size]
  omega
structure DM (n : Nat) (d : Dc) : Prop where
 bl : 0 ≤ d.blocks ∧ d.blocks ≤ n
 ok : ∀ x ∈ d.p.glo ++ d.p.loc, pOK x = true
 sz : ∀ x ∈ d.p.glo ++ d.p.loc, x.f0.size + x.f1.size ≤ 512 * n
 gl : d.p.glo.length ≤ 15000 * n
 lo : d.p.loc.length ≤ 512 * n
 nm : d.p.name.size ≤ 512 * n
 lk : d.p.link.size ≤ 512 * n
 bu : d.buf.length ≤ 512 * n
structure DN (n : Nat) (d : Dc) : Prop where
 dm : DM n d
 one : d.st = 1 → 0 < d.left ∧ d.left ≤ 65536 ∧ byteL d.buf = true ∧ 0 ≤ d.from_
 two : d.st = 2 → 0 < d.left ∧ d.left ≤ 9223372036854775807
theorem DN.di {n : Nat} {d : Dc} (h : DN n d) (hn : n ≤ 29) : DI d := by
 obtain ⟨⟨bl, ok, sz, gl, lo, nm, lk, bu⟩, one, two⟩ := h
 refine ⟨⟨bl.1, by omega⟩, one, two, ⟨ok, fun x hx => ?_, by omega, by omega, by omega⟩, by omega⟩
 have := sz x hx
 omega
theorem DM.up {n : Nat} {d : Dc} (h : DM n d) : DM (n + 1) { d with blocks := d.blocks + 1 } := by
 obtain ⟨bl, ok, sz, gl, lo, nm, lk, bu⟩ := h
 refine ⟨⟨by show 0 ≤ d.blocks + 1; omega, by show d.blocks + 1 ≤ _; omega⟩, ok, fun x hx => ?_, ?_, ?_, ?_, ?_, ?_⟩
 ·have := sz x hx; omega
 ·show d.p.glo.length ≤ _; omega
 ·show d.p.loc.length ≤ _; omega
 ·show d.p.name.size ≤ _; omega
 ·show d.p.link.size ≤ _; omega
 ·show d.buf.length ≤ _; omega
theorem DM.stay {n : Nat} {d : Dc} (h : DM n d) : DM (n + 1) d := by
 obtain ⟨bl, ok, sz, gl, lo, nm, lk, bu⟩ := h
 exact ⟨⟨bl.1, by omega⟩, ok, fun x hx => by have := sz x hx; omega, by omega, by omega, by omega, by omega, by omega⟩
theorem DM.same {n : Nat} {d e : Dc} (h : DM n d) (hb : e.blocks = d.blocks) (hp : e.p = d.p) (hl : e.buf.length ≤ 512 * n) : DM n e := by
 obtain ⟨bl, ok, sz, gl, lo, nm, lk, bu⟩ := h
 exact ⟨hb ▸ bl, hp ▸ ok, hp ▸ sz, hp ▸ gl, hp ▸ lo, hp ▸ nm, hp ▸ lk, hl⟩
theorem ext_keep {n : Nat} {d : Dc} (hn : n + 1 ≤ 29) (h : DM (n + 1) d) (hg : d.p.glo.length ≤ 15000 * n) : DN (n + 1) (extC d).1 := by
 obtain ⟨bl, ok, sz, gl, lo, nm, lk, bu⟩ := h
 have hk : DM (n + 1) { d with buf := [], st := 0, p := (extV d.fl d.buf d.from_ d.p).1, xt := if d.fl = 76 ∨ d.fl = 75 ∨ d.fl = 103 then d.xt else d.from_ } := by
  have hgt := getT_size d.buf
  have hz : ([] : List Int).length ≤ 512 * (n + 1) := Nat.zero_le _
  have same : DM (n + 1) { d with buf := [], st := 0, p := d.p, xt := if d.fl = 76 ∨ d.fl = 75 ∨ d.fl = 103 then d.xt else d.from_ } := ⟨bl, ok, sz, gl, lo, nm, lk, hz⟩
  unfold extV
  split
  ·split
   ·exact same
   ·split
    ·exact ⟨bl, ok, sz, gl, lo, by show (getT d.buf).size ≤ _; omega, lk, hz⟩
    ·exact ⟨bl, ok, sz, gl, lo, nm, by show (getT d.buf).size ≤ _; omega, hz⟩
  ·cases e : payV d.buf with
   | none => exact same
   | some ps =>
    obtain ⟨hl, hr⟩ := pay_right e
    dsimp only
    split
    ·refine ⟨bl, fun x hx => ?_, fun x hx => ?_, ?_, lo, nm, lk, hz⟩
     ·rcases List.mem_append.1 hx with hx | hx
      ·rcases List.mem_append.1 (layP_mem hx) with hx | hx
       ·exact ok x (List.mem_append_left _ hx)
       ·exact (hr x hx).1
      ·exact ok x (List.mem_append_right _ hx)
     ·rcases List.mem_append.1 hx with hx | hx
      ·rcases List.mem_append.1 (layP_mem hx) with hx | hx
       ·exact sz x (List.mem_append_left _ hx)
       ·have := (hr x hx).2; omega
      ·exact sz x (List.mem_append_right _ hx)
     ·have := lay_len d.p.glo ps
      show (layP d.p.glo ps).length ≤ _
      omega
    ·refine ⟨bl, fun x hx => ?_, fun x hx => ?_, gl, ?_, nm, lk, hz⟩
     ·rcases List.mem_append.1 hx with hx | hx
      ·exact ok x (List.mem_append_left _ hx)
      ·exact (hr x (last_mem ps x hx)).1
     ·rcases List.mem_append.1 hx with hx | hx
      ·exact sz x (List.mem_append_left _ hx)
      ·have := (hr x (last_mem ps x hx)).2; omega
     ·have := last_len ps
      show (lastL ps).length ≤ _
      omega
 unfold extC
 split
 ·exact ⟨⟨bl, ok, sz, gl, lo, nm, lk, Nat.zero_le _⟩, fun h => (by cases h), fun h => (by cases h)⟩
 ·exact ⟨hk, fun h => (by cases h), fun h => (by cases h)⟩
theorem DN.fail {n : Nat} {d : Dc} (h : DM n d) (c a : Int) : DN n (failC d c a).1 := by
 obtain ⟨bl, ok, sz, gl, lo, nm, lk, bu⟩ := h
 exact ⟨⟨bl, ok, sz, gl, lo, nm, lk, bu⟩, fun h => (by cases h), fun h => (by cases h)⟩
theorem head_keep {n : Nat} {d : Dc} (hn : n + 1 ≤ 29) (h : DM (n + 1) d) (hg : d.p.glo.length ≤ 15000 * n) (l : List Int) (a : Int) (ha : 0 ≤ a) (hb : byteL l = true) : DN (n + 1) (headC d l a).1 := by
 unfold headC
 split
 ·exact DN.fail h _ _
 split
 ·split
  ·exact DN.fail h _ _
  split
  ·exact DN.fail h _ _
  split
  ·exact ext_keep hn (h.same rfl rfl (Nat.zero_le _)) hg
  ·rename_i h1 h2 h3
   have := numV_nn (l := l) (i := 3) (by omega) (by decide)
   exact ⟨h.same rfl rfl (Nat.zero_le _), fun _ => ⟨by show 0 < (numV l 3).1; omega, by show (numV l 3).1 ≤ 65536; omega, rfl, ha⟩, fun h => (by cases h)⟩
 split
 ·exact DN.fail h _ _
 ·obtain ⟨bl, ok, sz, gl, lo, nm, lk, bu⟩ := h
  refine ⟨⟨bl, fun x hx => ?_, fun x hx => ?_, gl, Nat.zero_le _, Nat.zero_le _, Nat.zero_le _, bu⟩, fun h => ?_, fun h => ?_⟩
  ·rcases List.mem_append.1 hx with hx | hx
   ·exact ok x (List.mem_append_left _ hx)
   ·cases hx
  ·rcases List.mem_append.1 hx with hx | hx
   ·exact sz x (List.mem_append_left _ hx)
   ·cases hx
  ·have h : (if (itemC l (getR l).1 d.p).1.f6 > 0 then (2 : Int) else 0) = 1 := h
   split at h <;> cases h
  ·have h : (if (itemC l (getR l).1 d.p).1.f6 > 0 then (2 : Int) else 0) = 2 := h
   split at h
   ·rename_i h6
    exact ⟨h6, item_f6 l (getR l).1 d.p hb⟩
   ·cases h
theorem blk_keep {n : Nat} {d : Dc} (hn : n + 1 ≤ 29) (h : DN n d) (l : List Int) (hl : l.length = 512) (hb : byteL l = true) : DN (n + 1) (blkC d l).1 := by
 have hu := h.dm.up
 unfold blkC
 split
 ·exact ⟨h.dm.stay, h.one, h.two⟩
 split
 ·exact ⟨h.dm.stay, h.one, h.two⟩
 split
 ·rename_i h1
  obtain ⟨o1, o2, o3, o4⟩ := h.one h1
  split
  ·refine ⟨hu.same rfl rfl ?_, fun _ => ⟨by show 0 < d.left - 512; omega, by show d.left - 512 ≤ _; omega, ?_, o4⟩, fun h => ?_⟩
   ·show (d.buf ++ l).length ≤ _
    rw [List.length_append]
    have := h.dm.bu
    omega
   ·exact byteL_iff.2 fun c hc => (List.mem_append.1 hc).elim (byteL_iff.1 o3 c) (byteL_iff.1 hb c)
   ·have h : d.st = 2 := h
    omega
  ·refine ext_keep hn (hu.same rfl rfl ?_) h.dm.gl
   show (d.buf ++ l.take d.left.toNat).length ≤ _
   rw [List.length_append, List.length_take]
   have := h.dm.bu
   omega
 split
 ·rename_i h2
  obtain ⟨o1, o2⟩ := h.two h2
  split
  ·refine ⟨hu.same rfl rfl ?_, fun h => ?_, fun _ => ⟨by show 0 < d.left - 512; omega, by show d.left - 512 ≤ _; omega⟩⟩
   ·show d.buf.length ≤ _
    have := h.dm.bu
    omega
   ·have h : d.st = 1 := h
    omega
  ·refine ⟨hu.same rfl rfl ?_, fun h => (by cases h), fun h => (by cases h)⟩
   show d.buf.length ≤ _
   have := h.dm.bu
   omega
 split
 ·split
  ·exact DN.fail hu _ _
  ·unfold edC
   split
   ·exact DN.fail hu _ _
   ·refine ⟨hu.same rfl rfl hu.bu, fun h => (by cases h), fun h => (by cases h)⟩
 split
 ·refine ⟨hu.same rfl rfl hu.bu, fun h => (by cases h), fun h => (by cases h)⟩
 ·exact head_keep hn hu h.dm.gl l d.blocks h.dm.bl.1 hb
theorem zero_keep : DN 0 dZero := by
 refine ⟨⟨⟨Int.le_refl 0, Int.le_refl 0⟩, fun x hx => (by cases hx), fun x hx => (by cases hx), Nat.zero_le _, Nat.zero_le _, Nat.zero_le _, Nat.zero_le _, Nat.zero_le _⟩, fun h => (by cases h), fun h => (by cases h)⟩
end Go.Proofs.YtedglegjghokfaaGreatDoor.P
namespace Go.Proofs.YtedglegjghokfaaGreatDoor.P
open Go.RowKit Go.Proofs.YtedglegjghokfaaGreatDoorW.PrintWords Go.Proofs.YtedglegjghokfaaGreatDoorW.PrintLast Go.Proofs.YtedglegjghokfaaGreatDoorW.PrintMore
open Go.Proofs.YtedglegjghokfaaGreatDoor
set_option linter.unusedVariables false
attribute [local go_sem] Oper.semAt_some
def zsL (n : Nat) : List Int := List.replicate n 0
theorem zs_len (n : Nat) : (zsL n).length = n := List.length_replicate
theorem zs_byte (n : Nat) : byteL (zsL n) = true := byteL_iff.2 fun c hc => by rw [(List.mem_replicate.1 hc).2]; decide
theorem zs_blank (n : Nat) : blankV (zsL n) = true := List.all_eq_true.2 fun c hc => by rw [(List.mem_replicate.1 hc).2]; rfl
abbrev dOne : Dc := { dZero with blocks := 1, st := 3 }
abbrev dTwo : Dc := { dZero with blocks := 2, st := 4 }
theorem blk_one : blkC dZero (zsL 512) = (dOne, .none, 0) := by
 unfold blkC
 rw [zs_blank]
 rfl
theorem blk_two : blkC dOne (zsL 512) = (dTwo, .fin, 0) := by
 unfold blkC
 rw [zs_blank]
 rfl
section
variable {w0 w : World} {v0 : Value} {D : Nat} {d : Dc} {vl vg vb : Value}
theorem block512 (h : DT w0 v0 w D d vl vg vb) (hq : DG w D vb) (hs6 : 6 ≤ w.heap.size) (hi : DI d) (A0 : Option Addr) (c0 : Nat) (l0 : List Int) (hr0 : Kd.C (Kd.int .u8) w A0 l0.length l0) (hc0 : 512 ≤ c0) (hl : l0.length = 512) (hb : byteL l0 = true) (hsep : ∀ ad, A0 = some ad → ad.block ≠ D ∧ some ad.block ≠ vb.ownBlock) {r : Dc × EvV × Int} (hr : blkC d l0 = r) :
  Calls Tryz.prog 11 #[.pointer (some ⟨D, 0, none⟩), .slice A0 512 c0] w fun e w' => HeadPost w0 v0 D r e w' := by
 have := block_calls h hq hs6 hi A0 c0 l0 hr0 (by omega) hl hb hsep
 rw [hl, hr] at this
 exact this
end
section
variable {P : Program} {ops : Array Oper} {rest : List Oper} {o : Oper} {a : Act} {Q : Exit → Act → World → Prop}
theorem wpList_store_fresh {W : World} (hgd : o.guard = none) (ty : TypeId) (x y : Operand) (ho : o.op = .store ty x y) (z cells : Array Value) (t : TypeId) (hx : a.eval x = .pointer (some ⟨W.heap.size, 0, none⟩)) (hy : a.eval y = .agg cells)
  (hs : cells.size = z.size) (hi : (P.info? ty).map (·.size) = some cells.size) (h1 : cells.all (·.oneCell') = true)
  (h : ∀ w' : World, w'.heap[W.heap.size]? = some (.cells cells t (0, 0)) → Below W.heap.size W w' → wpList P ops Q rest (a.put o.dst undef) w') : wpList P ops Q (o :: rest) a (W.alloc (.cells z t)) :=
 wpList_store_blk hgd ty x y ho W.heap.size cells hx hy (heap_alloc_new W _) hs hi h1 fun w' h1 h2 h3 h4 =>
  h w' h1 (h4 _ _ (Nat.le_refl _) ((Below.refl _ W).alloc (Nat.le_refl _) _))
end
section
variable {w0 w w' : World} {v0 v' : Value} {D : Nat} {d d' : Dc} {vl vg vb vl' vg' vb' : Value}
theorem blk_chg (h : DS w D d vl vg vb) (c : Chg w w' D vb v') {g : Nat} {cs : Array Value} {t : TypeId} (hb : w.heap[g]? = some (.cells cs t (0, 0))) (ht : (t != 72 && t != 5) = true) : w'.heap[g]? = some (.cells cs t (0, 0)) := by
 simp only [Bool.and_eq_true, bne_iff_ne, ne_eq] at ht
 refine (c.block g (blk_lt hb) (fun e => ?_) (DS_own_ne h hb (Ne.symm ht.2))).trans hb
 subst e
 have := hb.symm.trans h.blk
 injection this with this
 injection this with _ e
 exact ht.1 e
end
theorem zs_C (w1 : World) : Kd.C kB (w1.alloc (.cells (madeCells #[.int .u8 0] 512) 5)) (some ⟨w1.heap.size, 0, none⟩) (zsL 512).length (zsL 512) := by
 have hr : RB (w1.alloc (.cells (madeCells #[.int .u8 0] 512) 5)) (.slice (some ⟨w1.heap.size, 0, none⟩) 512 512) (zsL 512) := Kd.R_of_own (by rw [zs_len]; exact own_made w1 0 5 .u8 512 (Nat.zero_le _) (by decide)) (fun _ _ => trivial)
 obtain ⟨A, c, e, _, hc⟩ := Kd.R_reads hr
 injection e with e
 exact e ▸ hc
set_option maxRecDepth 100000 in
set_option maxHeartbeats 6400000 in
theorem alive_calls (w : World) (hG : Glob w) (hs6 : 6 ≤ w.heap.size) :
  Calls Tryz.prog 8 #[] w fun e w' => e = .returned (.bool true) ∧ Below w.heap.size w w' := by
 have hmk : ∀ W : World, (Instr.makeSlice 22 (.int .i64 512) (.int .i64 512)).run Tryz.prog W = .ok (.slice (some ⟨W.heap.size, 0, none⟩) 512 512) (W.alloc (.cells (madeCells #[.int .u8 0] 512) 5)) := print_make (P := Tryz.prog) 22 5 .u8 1 Tryz.underlying22 (by kernel_rfl) (by decide) 512 (by decide)
 have HG := Lib.hid hG
 have H6 := Lib.hid hs6
 clear hG hs6
 go_enter Tryz.func8, Tryz.ntmps8
 go_wp2_with fail
 refine (new_calls _).mono ?_
 rintro e w1 ⟨rfl, hds, hb1⟩
 have hD := hds.lt
 have HB1 := Lib.hid hb1
 have HT1 := Lib.hid (hds.below (below_alloc (Below.refl w1.heap.size w1) (.cells (madeCells #[.int .u8 0] 512) 5))).start
 have HZ1 := Lib.hid (zs_C w1)
 have HS1 := Lib.hid hD
 have HQ1 : Hid (DG (w1.alloc (.cells (madeCells #[.int .u8 0] 512) 5)) w.heap.size (.slice none 0 0)) := Lib.hid ⟨(HG.out.below hb1).below (below_alloc (Below.refl w1.heap.size w1) _), H6.out, fun k hk => by simp [Value.ownBlock] at hk⟩
 have HB2 := Lib.hid (below_step hb1 (below_alloc (Below.refl w1.heap.size w1) (.cells (madeCells #[.int .u8 0] 512) 5)))
 clear hds hb1 hD
 go_wp2_with fail
 refine (block512 HT1.out HQ1.out (by rw [World.size_alloc]; have := HS1.out; have := H6.out; omega) (zero_keep.di (by decide)) (some ⟨w1.heap.size, 0, none⟩) 512 (zsL 512) HZ1.out (Nat.le_refl _) (zs_len _) (zs_byte _) (fun ad e => by injection e with e; subst e; exact ⟨Nat.ne_of_gt HS1.out, by simp [Value.ownBlock]⟩) blk_one).mono ?_
 rintro e w3 ⟨cs, vl1, vg1, vb1, rfl, he, ht⟩
 obtain rfl : cs = evA := he
 have HZ3 := Lib.hid (C_chg HZ1.out ht.ch (fun ad e => by injection e with e; subst e; exact ⟨Nat.ne_of_gt HS1.out, by simp [Value.ownBlock]⟩))
 have HT3 := Lib.hid ht
 have HQ3 := Lib.hid (HQ1.out.chg (by rw [World.size_alloc]; have := HS1.out; have := H6.out; omega) ht.ch)
 have HV3 : Hid (some w1.heap.size ≠ vb1.ownBlock) := Lib.hid (by
  rcases ht.ch.own with e | e | ⟨b, e, hb⟩
  ·rw [e]; simp [Value.ownBlock]
  ·rw [e]; simp
  ·rw [e]; rw [World.size_alloc] at hb; intro h; injection h; omega)
 clear ht
 go_wp2_with ((with_reducible refine wpList_store_fresh rfl 35 (.tmp 3) (.tmp 14) rfl evA evA 35 rfl rfl rfl (by kernel_rfl) (by kernel_rfl) ?_); intro w4 bx1 hb4; have HX1 := Lib.hid bx1; have HT4 := Lib.hid (HT3.out.below hb4); have HZ4 := Lib.hid (Kd.C_below HZ3.out hb4); have HQ4 := Lib.hid (HQ3.out.below hb4); clear bx1 hb4)
 have hst := stop_calls HT4.out.ds.start false
 rw [show stopV dOne false = (8, 1) from rfl] at hst
 refine hst.mono ?_
 clear hst
 rintro e w5 ⟨rfl, ht⟩
 have HX5 := Lib.hid (blk_chg HT4.out.ds ht.ch HX1.out rfl)
 have HZ5 := Lib.hid (C_chg HZ4.out ht.ch (fun ad e => by injection e with e; subst e; exact ⟨Nat.ne_of_gt HS1.out, HV3.out⟩))
 have HQ5 := Lib.hid (HQ4.out.chg (Nat.le_trans HQ4.out.dge (Nat.le_of_lt HT4.out.ds.lt)) ht.ch)
 have HT5 := Lib.hid (HT4.out.trans ht)
 clear ht
 go_wp2_with ((with_reducible refine wpList_store_fresh rfl 41 (.tmp 5) (.tmp 17) rfl (fltA 0 0) (fltA 8 1) 41 rfl rfl rfl (by kernel_rfl) (by kernel_rfl) ?_); intro w6 bx6 hb6; have HF6 := Lib.hid bx6; have HX6 := Lib.hid (blk_below HX5.out hb6); have HT6 := Lib.hid (HT5.out.below hb6); have HZ6 := Lib.hid (Kd.C_below HZ5.out hb6); have HQ6 := Lib.hid (HQ5.out.below hb6); clear bx6 hb6)
 refine (block512 HT6.out.ds.start HQ6.out (Nat.le_trans HQ6.out.dge (Nat.le_of_lt HT6.out.ds.lt)) ((blk_one ▸ blk_keep (by decide) zero_keep (zsL 512) (zs_len _) (zs_byte _) : DN 1 (dOne, (StepLaw.Ev.none : EvV), (0 : Int)).1).di (by decide)) (some ⟨w1.heap.size, 0, none⟩) 512 (zsL 512) HZ6.out (Nat.le_refl _) (zs_len _) (zs_byte _) (fun ad e => by injection e with e; subst e; exact ⟨Nat.ne_of_gt HS1.out, HV3.out⟩) blk_two).mono ?_
 rintro e w7 ⟨cs, vl2, vg2, vb2, rfl, he, ht⟩
 obtain rfl : cs = evE := he
 have HX7 := Lib.hid (blk_chg HT6.out.ds ht.ch HX6.out rfl)
 have HF7 := Lib.hid (blk_chg HT6.out.ds ht.ch HF6.out rfl)
 have HT7 := Lib.hid (HT6.out.trans ht)
 clear ht
 go_wp2_with ((with_reducible refine wpList_store_fresh rfl 35 (.tmp 6) (.tmp 22) rfl evA evE 35 rfl rfl rfl (by kernel_rfl) (by kernel_rfl) ?_); intro w8 bx8 hb8; have HY8 := Lib.hid bx8; have HX8 := Lib.hid (blk_below HX7.out hb8); have HF8 := Lib.hid (blk_below HF7.out hb8); have HT8 := Lib.hid (HT7.out.below hb8); have k1 : w8.cell? ⟨w3.heap.size, 0, none⟩ = some (.int .i64 0) := blk_cell HX8.out 0; have k2 : w8.cell? ⟨w7.heap.size, 0, none⟩ = some (.int .i64 3) := blk_cell HY8.out 0; have k3 : w8.cell? ⟨w5.heap.size, 0, none⟩ = some (.int .u8 8) := blk_cell HF8.out 0; have k4 : w8.cell? ⟨w5.heap.size, 1, none⟩ = some (.int .i64 1) := blk_cell HF8.out 1; clear bx8 hb8)
 have hst := stop_calls HT8.out.ds.start false
 rw [show stopV dTwo false = (0, 0) from rfl] at hst
 refine hst.mono ?_
 clear hst
 rintro e w9 ⟨rfl, ht⟩
 have HE := Lib.hid ((HT8.out.trans ht).ch.below (by rw [World.size_alloc]; have := HS1.out; omega) (Nat.le_refl _) (fun k hk => by simp [Value.ownBlock] at hk) HB2.out)
 clear ht
 go_wp2
 go_ret
 exact ⟨rfl, HE.out⟩
end Go.Proofs.YtedglegjghokfaaGreatDoor.P
namespace Go.Proofs.YtedglegjghokfaaGreatDoor.P
open Go.RowKit Go.Proofs.YtedglegjghokfaaGreatDoorW.PrintWords Go.Proofs.YtedglegjghokfaaGreatDoorW.PrintLast Go.Proofs.YtedglegjghokfaaGreatDoorW.PrintMore
open Go.Proofs.YtedglegjghokfaaGreatDoor
set_option linter.unusedVariables false
attribute [local go_sem] Oper.semAt_some
def kBl (w0 : World) : Kd (List Int) where
 sz := 1
 E := []
 K := fun _ x cs => ∃ A c, cs = [.slice A x.length c] ∧ x.length ≤ c ∧ Kd.C kB w0 A x.length x ∧ ∀ ad, A = some ad → ad.block < w0.heap.size
 M := fun _ _ _ x cs => ∃ A c, cs = [.slice A x.length c] ∧ x.length ≤ c ∧ Kd.C kB w0 A x.length x ∧ ∀ ad, A = some ad → ad.block < w0.heap.size
 K_len := fun h => by obtain ⟨A, c, rfl, _⟩ := h; rfl
 K_one := fun h u hu => by obtain ⟨A, c, rfl, _⟩ := h; rw [List.mem_singleton.1 hu]; rfl
 K_below := fun _ h => h
 K_of_M := fun h => h
 M_mono := fun _ h => h
 M_bound := fun h => h
 M_move := fun _ h => h
 M_lower := fun _ h => h
def cutB : Nat → List Int → List (List Int)
 | 0, _ => []
 | n + 1, l => l.take 512 :: cutB n (l.drop 512)
theorem cutB_succ (n : Nat) (l : List Int) : cutB (n + 1) l = l.take 512 :: cutB n (l.drop 512) := rfl
theorem cutB_len : ∀ (n : Nat) (l : List Int), (cutB n l).length = n
 | 0, _ => rfl
 | n + 1, l => (@List.length_cons _ (l.take 512) (cutB n (l.drop 512))).trans (congrArg Nat.succ (cutB_len n (l.drop 512)))
set_option maxRecDepth 100000 in
theorem cutB_at : ∀ (n : Nat) (l : List Int), n * 512 ≤ l.length → ∀ b ∈ cutB n l, b.length = 512 ∧ ∀ c ∈ b, c ∈ l
 | 0, _, _, b, hb => by simp [cutB] at hb
 | n + 1, l, h, b, hb => by
  rw [cutB_succ] at hb
  rcases List.mem_cons.1 hb with rfl | hb
  ·exact ⟨by rw [List.length_take]; omega, fun c hc => List.mem_of_mem_take hc⟩
  ·have := cutB_at n (l.drop 512) (by rw [List.length_drop]; omega) b hb
   exact ⟨this.1, fun c hc => List.mem_of_mem_drop (this.2 c hc)⟩
set_option maxRecDepth 100000 in
set_option maxHeartbeats 6400000 in
theorem cut_calls (A0 : Option Addr) (c0 : Nat) (l0 : List Int) (w : World) (hr0 : Kd.C kB w A0 l0.length l0) (hc0 : l0.length ≤ c0) (hcm : c0 ≤ 9223372036854775807) (hl : l0.length < 1000000) (hbk : ∀ ad, A0 = some ad → 512 ≤ l0.length → ad.block < w.heap.size) :
  Calls Tryz.prog 9 #[.slice A0 l0.length c0] w fun e w' => ∃ v' b', e = .returned (.tuple #[v', .bool b']) ∧ Kd.R (kBl w) 22 w' w.heap.size (fun k => w.heap.size ≤ k) v' (cutB (l0.length / 512) l0) ∧ Below w.heap.size w w' := by
 have hu := Tryz.underlying22
 have hu24 := Tryz.underlying24
 obtain ⟨N, hN⟩ : ∃ N, l0.length / 512 = N := ⟨_, rfl⟩
 rw [hN]
 have HR0 := Aside0.mk (And.intro hr0 (And.intro hc0 (And.intro hcm hbk)))
 have HL := Lib.hid (And.intro hl hN)
 clear hr0 hc0 hcm hl hbk hN
 go_enter Tryz.func9, Tryz.ntmps9
 go_wp2_with fail
 go_loopg [0, 4] (N) (fun gk v0 v4 wr => ∃ (A : Option Addr) (n c : Nat), v0 = .slice A n c ∧ Aside0 (∃ (m : List Int) (acc : List (List Int)), m.length = n ∧ n ≤ c ∧ c ≤ 9223372036854775807 ∧ n / 512 = gk ∧ n < 1000000 ∧ acc.length + gk = N ∧ acc ++ cutB gk m = cutB N l0 ∧ Kd.C kB w A m.length m ∧ (∀ ad, A = some ad → 512 ≤ n → ad.block < w.heap.size) ∧ Kd.R (kBl w) 22 wr w.heap.size (fun k => w.heap.size ≤ k) v4 acc ∧ Below w.heap.size w wr))
 case atStart => exact ⟨A0, l0.length, c0, rfl, ⟨l0, [], rfl, HR0.out.2.1, HR0.out.2.2.1, HL.out.2, HL.out.1, by simp, rfl, HR0.out.1, HR0.out.2.2.2, Kd.R_nil _ _ _ _ _, Below.refl _ _⟩⟩
 case round =>
  clear HR0
  obtain ⟨A, n, c, rfl, HN⟩ := hrel
  obtain ⟨m, acc, hmn, hnc, hcm, hgk, hnl, hac, hk, hC, hbk, hR, hB⟩ := HN.out
  cases gk with
  | zero =>
   have hlt : decide ((n : Int) < 512) = true := by simp; omega
   have hge : decide ((512 : Int) ≤ (n : Int)) = false := by simp; omega
   have hres : acc = cutB N l0 := by rw [← hk]; simp [cutB]
   rw [hres] at hR
   have HA := Lib.hid hR
   have HB := Lib.hid hB
   clear hmn hnc hcm hgk hnl hac hk hC hbk hR hB hres HN
   go_wp2
   go_ret2
   exact ⟨_, _, rfl, HA.out, HB.out⟩
  | succ kk =>
   have h512 : 512 ≤ n := by omega
   replace hbk : ∀ ad, A = some ad → ad.block < w.heap.size := fun ad e => hbk ad e h512
   have hge : decide ((512 : Int) ≤ (n : Int)) = true := by simp; omega
   have hcq : ((512 : Int) ≤ (c : Int)) = True := eq_true (by omega)
   have hnq : ((512 : Int) ≤ (n : Int)) = True := eq_true (by omega)
   have h1 := Kd.C_take (m := 512) hC (by omega)
   have hb1 : (m.take 512).length = 512 := by rw [List.length_take]; omega
   rw [hb1] at h1
   rw [cutB_succ] at hk
   have HK := Lib.hid (show (acc ++ [m.take 512]) ++ cutB kk (m.drop 512) = cutB N l0 by rw [List.append_assoc]; exact hk)
   have HX := Lib.hid (show ∀ (W : World) (base : Nat) (ok : Nat → Prop), (kBl w).M W base ok (m.take 512) [.slice A 512 c] from fun _ _ _ => ⟨A, c, by rw [hb1], by rw [hb1]; omega, by rw [hb1]; exact h1, hbk⟩)
   have hd := Kd.C_drop (m := 512) (c := c) hC (by omega) (by omega)
   have HD := Lib.hid hd
   have HF := Lib.hid (show m.length = n ∧ n ≤ c ∧ c ≤ 9223372036854775807 ∧ n / 512 = kk + 1 ∧ n < 1000000 ∧ acc.length + (kk + 1) = N ∧ 512 ≤ n from ⟨hmn, hnc, hcm, hgk, hnl, hac, h512⟩)
   have HBK := Lib.hid hbk
   have HO := Lib.hid hR
   have HB := Lib.hid hB
   clear hmn hnc hcm hgk hnl hac hk hC hbk hR hB HN h1 hb1 hd h512
   by_cases hc5 : c = 512
   ·subst hc5
    have hcf := eq_self 512
    go_wp2_with ((with_reducible refine gate_builtin (b := .append) (xs := #[.tmp 8, .tmp 11]) rfl ?_); at_builtin; go_loud (refine Kd.R_append (kBl w) (w0 := w) w.heap.size rfl (.tmp 8) (.tmp 11) 24 22 (.slice none 0 0) 24 rfl hu24 (by kernel_rfl) rfl Nat.one_pos (by omega) _ acc (m.take 512) [.slice A 512 512] (fun k => w.heap.size ≤ k) (fun _ => False) rfl rfl ?aP (fun _ hk => hk.elim) ?aF ?aO ?aB ?aS ?aL ?_; (case aP => exact HX.out _ _ _); (case aB => exact HB.out); (case aF => exact fun k_ hk => Nat.le_trans HB.out.size hk); (case aO => exact HO.out); (case aS => exact HB.out.size); (case aL => have := HF.out; have := HL.out; omega); intro v2 w51 ho hb hg hat; have HO2 := Lib.hid ho; have HBB := Lib.hid hb; clear ho hb hg hat))
    have hd := HD.out
    simp only [eq_self, if_true] at hd
    clear HX HD
    go_roundg kk
    case measure => omega
    have hf := HF.out
    exact ⟨_, _, _, rfl, ⟨m.drop 512, acc ++ [m.take 512], by rw [List.length_drop]; omega, by omega, by omega, by omega, by omega, by rw [List.length_append, List.length_singleton]; omega, HK.out, hd, fun ad e _ => HBK.out ad e, HO2.out, HBB.out⟩⟩
   ·have hcf := eq_false hc5
    go_wp2_with ((with_reducible refine gate_builtin (b := .append) (xs := #[.tmp 8, .tmp 11]) rfl ?_); at_builtin; go_loud (refine Kd.R_append (kBl w) (w0 := w) w.heap.size rfl (.tmp 8) (.tmp 11) 24 22 (.slice none 0 0) 24 rfl hu24 (by kernel_rfl) rfl Nat.one_pos (by omega) _ acc (m.take 512) [.slice A 512 c] (fun k => w.heap.size ≤ k) (fun _ => False) rfl rfl ?aP (fun _ hk => hk.elim) ?aF ?aO ?aB ?aS ?aL ?_; (case aP => exact HX.out _ _ _); (case aB => exact HB.out); (case aF => exact fun k_ hk => Nat.le_trans HB.out.size hk); (case aO => exact HO.out); (case aS => exact HB.out.size); (case aL => have := HF.out; have := HL.out; omega); intro v2 w51 ho hb hg hat; have HO2 := Lib.hid ho; have HBB := Lib.hid hb; clear ho hb hg hat))
    have hd := HD.out
    rw [if_neg hc5] at hd
    clear HX HD
    go_roundg kk
    case measure => omega
    have hf := HF.out
    exact ⟨_, _, _, rfl, ⟨m.drop 512, acc ++ [m.take 512], by rw [List.length_drop]; omega, by omega, by omega, by omega, by omega, by rw [List.length_append, List.length_singleton]; omega, HK.out, hd, by
     intro ad had _
     cases hA : A with
     | none => rw [hA] at had; cases had
     | some a => rw [hA] at had; rw [← Option.some.inj had]; exact HBK.out a hA, HO2.out, HBB.out⟩⟩
end Go.Proofs.YtedglegjghokfaaGreatDoor.P
namespace Go.Proofs.YtedglegjghokfaaGreatDoor.P
open Go.RowKit Go.Proofs.YtedglegjghokfaaGreatDoorW.PrintWords Go.Proofs.YtedglegjghokfaaGreatDoorW.PrintLast Go.Proofs.YtedglegjghokfaaGreatDoorW.PrintMore
attribute [local go_sem] max2_int min2_int max_two min_two max_three min_three max_four min_four   -- for this text's walks alone
set_option linter.unusedVariables false
set_option linter.unusedSimpArgs false
def oakumref01_Same.f (l0 : List Int) (l1 : List Int) : Option (Bool) := some ((strOfNums l0).toList == (strOfNums l1).toList)
set_option maxHeartbeats 8000000 in
set_option maxRecDepth 100000 in
theorem oakumref01_Same.calls (A0 : Option Addr) (c0 : Nat) (l0 : List Int) (A1 : Option Addr) (c1 : Nat) (l1 : List Int) (r : Bool) (w : World) (hr0 : Kd.C (Kd.int .u8) w A0 l0.length l0) (hc0 : l0.length ≤ c0) (hr1 : Kd.C (Kd.int .u8) w A1 l1.length l1) (hc1 : l1.length ≤ c1) (h : oakumref01_Same.f l0 l1 = some r) :
  Calls Tryz.prog 45 #[.slice A0 l0.length c0, .slice A1 l1.length c1] w fun e w' => e = .returned (.bool r) ∧ Drawn0 w w' := by
 have HR0 := Aside0.mk hr0
 have HC0 := Aside0.mk hc0
 clear hr0 hc0
 have HR1 := Aside0.mk hr1
 have HC1 := Aside0.mk hc1
 clear hr1 hc1
 have H : (some ((strOfNums l0).toList == (strOfNums l1).toList)) = some r := h
 clear h
 obtain rfl := Option.some.inj H
 have hcv3 := Kd.C_string (P := Tryz.prog) (A := A0) (c := c0) Tryz.underlying22 Tryz.underlying5 Tryz.underlying9 HR0.out
 have hcv4 := Kd.C_string (P := Tryz.prog) (A := A1) (c := c1) Tryz.underlying22 Tryz.underlying5 Tryz.underlying9 HR1.out
 go_enter Tryz.func45, Tryz.ntmps45
 go_wp2
 go_ret
 exact ⟨Zr, Zd⟩
end Go.Proofs.YtedglegjghokfaaGreatDoor.P
namespace Go.Proofs.YtedglegjghokfaaGreatDoor.P
open Go.RowKit Go.Shelf Go.Sort Go.Proofs.YtedglegjghokfaaGreatDoorW.PrintWords Go.Proofs.YtedglegjghokfaaGreatDoorW.PrintLast Go.Proofs.YtedglegjghokfaaGreatDoorW.PrintMore
open Go.Proofs.YtedglegjghokfaaGreatDoor
set_option linter.unusedVariables false
attribute [local go_sem] Oper.semAt_some
set_option maxRecDepth 100000 in
set_option maxHeartbeats 6400000 in
theorem head_self (a0 : Int) (a1 : ByteArray) (a2 : ByteArray) (a3 : Int) (a4 : Int) (a5 : Int) (a6 : Int) (a7 : Int) (a8 : Int) (a9 : ByteArray) (a10 : ByteArray) (a11 : Int) (a12 : Int) (l : List S126) (A : Option Addr) (c : Nat) (B : Option Addr) (d : Nat) (w : World) (hA : Kd.C k126 w A l.length l) (hc : l.length ≤ c) (hB : Kd.C k126 w B l.length l) (hd : l.length ≤ d) (hl : l.length ≤ 2097152) :
  Calls Tryz.prog 19 #[.agg #[.int .i64 a0, .string a1, .string a2, .int .i64 a3, .int .i64 a4, .int .i64 a5, .int .i64 a6, .int .i64 a7, .int .i64 a8, .string a9, .string a10, .int .i64 a11, .int .i64 a12, .slice A l.length c], .agg #[.int .i64 a0, .string a1, .string a2, .int .i64 a3, .int .i64 a4, .int .i64 a5, .int .i64 a6, .int .i64 a7, .int .i64 a8, .string a9, .string a10, .int .i64 a11, .int .i64 a12, .slice B l.length d]] w fun e w' => e = .returned (.bool true) ∧ Below w.heap.size w w' := by
 have hu1 := Tryz.underlying33
 have hu2 := Tryz.underlying30
 have HA := Lib.hid hA
 have HB := Lib.hid hB
 have HC := Lib.hid hc
 have HD := Lib.hid hd
 have HS := Lib.hid (show oakumref07_Same.f 3000000 l l = some true from by rw [same_f l l hl 3000000 (by omega), decide_eq_true rfl])
 have hW := ((Below.refl _ w).alloc (Nat.le_refl _) (.cells #[.int .i64 a0, .string a1, .string a2, .int .i64 a3, .int .i64 a4, .int .i64 a5, .int .i64 a6, .int .i64 a7, .int .i64 a8, .string a9, .string a10, .int .i64 a11, .int .i64 a12, .slice A l.length c] 33)).alloc (by simp) (.cells #[.int .i64 a0, .string a1, .string a2, .int .i64 a3, .int .i64 a4, .int .i64 a5, .int .i64 a6, .int .i64 a7, .int .i64 a8, .string a9, .string a10, .int .i64 a11, .int .i64 a12, .slice B l.length d] 33)
 have HW := Lib.hid hW
 clear hA hB hc hd hl hW
 go_enter Tryz.func19, Tryz.ntmps19
 go_wp2_with fail
 refine (oakumref07_Same.calls 3000000 A c l B d l true _ (Kd.C_below HA.out HW.out) HC.out (Kd.C_below HB.out HW.out) HD.out HS.out).mono ?_
 rintro e w2 ⟨rfl, n, rfl⟩
 go_wp2
 go_ret
 exact ⟨rfl, pw_below_drewN HW.out n⟩
set_option maxRecDepth 100000 in
set_option maxHeartbeats 6400000 in
theorem same_calls (k : Int) (h : HdP) (m : List Int) (A : Option Addr) (c : Nat) (A2 : Option Addr) (c2 : Nat) (B : Option Addr) (d : Nat) (B2 : Option Addr) (d2 : Nat) (w : World) (hA : Kd.C k126 w A h.f12.length h.f12) (hc : h.f12.length ≤ c) (hB : Kd.C k126 w B h.f12.length h.f12) (hd : h.f12.length ≤ d) (hl : h.f12.length ≤ 2097152)
  (hA2 : Kd.C (Kd.int .u8) w A2 m.length m) (hc2 : m.length ≤ c2) (hB2 : Kd.C (Kd.int .u8) w B2 m.length m) (hd2 : m.length ≤ d2) :
  Calls Tryz.prog 17 #[.agg #[.int .i64 k, .int .i64 h.f0, .string h.f1, .string h.f2, .int .i64 h.f3, .int .i64 h.f4, .int .i64 h.f5, .int .i64 h.f6, .int .i64 h.f7.f0, .int .i64 h.f7.f1, .string h.f8, .string h.f9, .int .i64 h.f10, .int .i64 h.f11, .slice A h.f12.length c, .slice A2 m.length c2], .agg #[.int .i64 k, .int .i64 h.f0, .string h.f1, .string h.f2, .int .i64 h.f3, .int .i64 h.f4, .int .i64 h.f5, .int .i64 h.f6, .int .i64 h.f7.f0, .int .i64 h.f7.f1, .string h.f8, .string h.f9, .int .i64 h.f10, .int .i64 h.f11, .slice B h.f12.length d, .slice B2 m.length d2]] w fun e w' => e = .returned (.bool true) ∧ Below w.heap.size w w' := by
 have hu1 := Tryz.underlying35
 have hu2 := Tryz.underlying33
 have hu3 := Tryz.underlying49
 have HA2 := Lib.hid hA2
 have HB2 := Lib.hid hB2
 have HC2 := Lib.hid hc2
 have HD2 := Lib.hid hd2
 have HW := Lib.hid (below_alloc (below_alloc (Below.refl w.heap.size w) (.cells #[.int .i64 k, .int .i64 h.f0, .string h.f1, .string h.f2, .int .i64 h.f3, .int .i64 h.f4, .int .i64 h.f5, .int .i64 h.f6, .int .i64 h.f7.f0, .int .i64 h.f7.f1, .string h.f8, .string h.f9, .int .i64 h.f10, .int .i64 h.f11, .slice A h.f12.length c, .slice A2 m.length c2] 35)) (.cells #[.int .i64 k, .int .i64 h.f0, .string h.f1, .string h.f2, .int .i64 h.f3, .int .i64 h.f4, .int .i64 h.f5, .int .i64 h.f6, .int .i64 h.f7.f0, .int .i64 h.f7.f1, .string h.f8, .string h.f9, .int .i64 h.f10, .int .i64 h.f11, .slice B h.f12.length d, .slice B2 m.length d2] 49))
 have HH := Lib.hid (fun W (hb : Below w.heap.size w W) => head_self h.f0 h.f1 h.f2 h.f3 h.f4 h.f5 h.f6 h.f7.f0 h.f7.f1 h.f8 h.f9 h.f10 h.f11 h.f12 A c B d W (Kd.C_below hA hb) hc (Kd.C_below hB hb) hd hl)
 have B0 := Lib.hid (blk_alloc (heap_alloc_new w (.cells #[.int .i64 k, .int .i64 h.f0, .string h.f1, .string h.f2, .int .i64 h.f3, .int .i64 h.f4, .int .i64 h.f5, .int .i64 h.f6, .int .i64 h.f7.f0, .int .i64 h.f7.f1, .string h.f8, .string h.f9, .int .i64 h.f10, .int .i64 h.f11, .slice A h.f12.length c, .slice A2 m.length c2] 35)) (.cells #[.int .i64 k, .int .i64 h.f0, .string h.f1, .string h.f2, .int .i64 h.f3, .int .i64 h.f4, .int .i64 h.f5, .int .i64 h.f6, .int .i64 h.f7.f0, .int .i64 h.f7.f1, .string h.f8, .string h.f9, .int .i64 h.f10, .int .i64 h.f11, .slice B h.f12.length d, .slice B2 m.length d2] 49))
 have b1 := heap_alloc_new (w.alloc (.cells #[.int .i64 k, .int .i64 h.f0, .string h.f1, .string h.f2, .int .i64 h.f3, .int .i64 h.f4, .int .i64 h.f5, .int .i64 h.f6, .int .i64 h.f7.f0, .int .i64 h.f7.f1, .string h.f8, .string h.f9, .int .i64 h.f10, .int .i64 h.f11, .slice A h.f12.length c, .slice A2 m.length c2] 35)) (.cells #[.int .i64 k, .int .i64 h.f0, .string h.f1, .string h.f2, .int .i64 h.f3, .int .i64 h.f4, .int .i64 h.f5, .int .i64 h.f6, .int .i64 h.f7.f0, .int .i64 h.f7.f1, .string h.f8, .string h.f9, .int .i64 h.f10, .int .i64 h.f11, .slice B h.f12.length d, .slice B2 m.length d2] 49)
 rw [World.size_alloc] at b1
 have B1 := Lib.hid b1
 clear hA hA2 hB hB2 hc hc2 hd hd2 hl b1
 go_enter Tryz.func17, Tryz.ntmps17
 go_wp2_with fail
 refine (HH.out _ HW.out).mono ?_
 rintro e w2 ⟨rfl, hb⟩
 have HB3 := Lib.hid (below_step HW.out hb)
 have c15 : w2.cell? ⟨w.heap.size, 15, none⟩ = some (.slice A2 m.length c2) := blk_cell (blk_below B0.out hb) 15
 have d15 : w2.cell? ⟨w.heap.size + 1, 15, none⟩ = some (.slice B2 m.length d2) := blk_cell (blk_below B1.out hb) 15
 clear hb
 go_wp2_with fail
 refine (oakumref01_Same.calls A2 c2 m B2 d2 m true _ (Kd.C_below HA2.out HB3.out) HC2.out (Kd.C_below HB2.out HB3.out) HD2.out (by unfold oakumref01_Same.f; rw [beq_self_eq_true])).mono ?_
 rintro e w3 ⟨rfl, n, rfl⟩
 go_wp2
 go_ret
 exact ⟨rfl, pw_below_drewN HB3.out n⟩
end Go.Proofs.YtedglegjghokfaaGreatDoor.P
namespace Go.Proofs.YtedglegjghokfaaGreatDoor.P
open Go.RowKit Go.Proofs.YtedglegjghokfaaGreatDoorW.PrintWords Go.Proofs.YtedglegjghokfaaGreatDoorW.PrintLast Go.Proofs.YtedglegjghokfaaGreatDoorW.PrintMore
open Go.Proofs.YtedglegjghokfaaGreatDoor
set_option linter.unusedVariables false
attribute [local go_sem] Oper.semAt_some
set_option maxRecDepth 100000 in
set_option maxHeartbeats 3200000 in
theorem odd_calls (D : Nat) (A : Option Addr) (n c : Nat) (w : World) (hn : n ≠ 512) :
  Calls Tryz.prog 11 #[.pointer (some ⟨D, 0, none⟩), .slice A n c] w fun e w' => e = .returned (.tuple #[.agg evA, .int .u8 2]) ∧ Below w.heap.size w w' := by
 have hne : ((n : Int) == 512) = false := by simp; omega
 have HR := Lib.hid (heap_alloc_new w (.cells evA 35))
 have HB := Lib.hid (below_alloc (Below.refl w.heap.size w) (.cells evA 35))
 clear hn
 go_enter Tryz.func11, Tryz.ntmps11
 go_wp2_with ((with_reducible refine wpList_store_blk rfl 35 (.tmp 4) (.tmp 16) rfl w.heap.size evA rfl rfl HR.out rfl (by kernel_rfl) (by kernel_rfl) ?_); intro w9 h1 h2 h3 h4; replace HB := Lib.hid (h4 _ _ (Nat.le_refl _) HB.out); replace HR := Lib.hid h1; clear h1 h2 h3 h4)
 refine bodyPost_ret (results_blk rfl _ _ w.heap.size 35 evA (0, 0) _ (.int .u8 2) rfl HR.out rfl Tryz.underlying35 rfl (by kernel_rfl)) rfl ⟨rfl, HB.out⟩
set_option maxRecDepth 100000 in
set_option maxHeartbeats 3200000 in
theorem noblock_calls (b : Value) (w : World) :
  Calls Tryz.prog 11 #[.pointer none, b] w fun e w' => e = .returned (.tuple #[.agg evA, .int .u8 1]) ∧ Below w.heap.size w w' := by
 have HR := Lib.hid (heap_alloc_new w (.cells evA 35))
 have HB := Lib.hid (below_alloc (Below.refl w.heap.size w) (.cells evA 35))
 go_enter Tryz.func11, Tryz.ntmps11
 go_wp2_with ((with_reducible refine wpList_store_blk rfl 35 (.tmp 4) (.tmp 11) rfl w.heap.size evA rfl rfl HR.out rfl (by kernel_rfl) (by kernel_rfl) ?_); intro w9 h1 h2 h3 h4; replace HB := Lib.hid (h4 _ _ (Nat.le_refl _) HB.out); replace HR := Lib.hid h1; clear h1 h2 h3 h4)
 refine bodyPost_ret (results_blk rfl _ _ w.heap.size 35 evA (0, 0) _ (.int .u8 1) rfl HR.out rfl Tryz.underlying35 rfl (by kernel_rfl)) rfl ⟨rfl, HB.out⟩
set_option maxRecDepth 100000 in
theorem noblocks_calls (w : World) : Calls Tryz.prog 16 #[.pointer none] w fun e w' => e = .returned (.int .i64 0) ∧ w' = w := by
 go_enter Tryz.func16, Tryz.ntmps16
 go_wp2
 go_ret
 exact ⟨rfl, rfl⟩
set_option maxRecDepth 100000 in
theorem noheld_calls (w : World) : Calls Tryz.prog 15 #[.pointer none] w fun e w' => e = .returned (.int .i64 0) ∧ w' = w := by
 go_enter Tryz.func15, Tryz.ntmps15
 go_wp2
 go_ret
 exact ⟨rfl, rfl⟩
set_option maxRecDepth 100000 in
set_option maxHeartbeats 1600000 in
theorem nofault_calls (w : World) : Calls Tryz.prog 13 #[.pointer none] w fun e w' => e = .returned (.agg (fltA 0 0)) ∧ Below w.heap.size w w' := by
 have HR := Lib.hid (heap_alloc_new w (.cells (fltA 0 0) 41))
 have HB := Lib.hid (below_alloc (Below.refl w.heap.size w) (.cells (fltA 0 0) 41))
 go_enter Tryz.func13, Tryz.ntmps13
 go_wp2
 refine bodyPost_ret (results_cell_row rfl _ _ w.heap.size 41 (fltA 0 0) (0, 0) _ rfl HR.out Tryz.underlying41 rfl (by kernel_rfl)) rfl ⟨rfl, HB.out⟩
set_option maxRecDepth 100000 in
set_option maxHeartbeats 1600000 in
theorem nostop_calls (b : Bool) (w : World) : Calls Tryz.prog 14 #[.pointer none, .bool b] w fun e w' => e = .returned (.agg (fltA 1 0)) ∧ Below w.heap.size w w' := by
 have HR := Lib.hid (heap_alloc_new w (.cells (fltA 1 0) 41))
 have HB := Lib.hid (below_alloc (Below.refl w.heap.size w) (.cells (fltA 1 0) 41))
 go_enter Tryz.func14, Tryz.ntmps14
 go_wp2
 refine bodyPost_ret (results_cell_row rfl _ _ w.heap.size 41 (fltA 1 0) (0, 0) _ rfl HR.out Tryz.underlying41 rfl (by kernel_rfl)) rfl ⟨rfl, HB.out⟩
end Go.Proofs.YtedglegjghokfaaGreatDoor.P
namespace Go.Proofs.YtedglegjghokfaaGreatDoor.P
open Go.RowKit Go.Proofs.YtedglegjghokfaaGreatDoorW.PrintWords Go.Proofs.YtedglegjghokfaaGreatDoorW.PrintLast Go.Proofs.YtedglegjghokfaaGreatDoorW.PrintMore
open Go.Proofs.YtedglegjghokfaaGreatDoor
set_option linter.unusedVariables false
section
variable {w w' : World} {v' : Value} {D : Nat} {d : Dc} {vl vg vb : Value}
theorem R_chg {α : Type} {K : Kd α} {e : Nat} {xs : List α} {v : Value} {base : Nat} {ok : Nat → Prop} (h : Kd.R K e w base ok v xs) (hs : DS w D d vl vg vb) (c : Chg w w' D vb v') (ht : ∀ q, q ∈ e :: K.E → q ≠ 72 ∧ 5 ≠ q) : Kd.R K e w' base ok v xs := by
 refine Kd.R_mono (Kd.R_move (Kd.R_bound h) (fun k hk => ?_)) (fun k hk => hk.1)
 obtain ⟨_, _, hlt, q, hq, cells, hc⟩ := hk
 refine c.block k hlt (fun e2 => ?_) (DS_own_ne hs hc (ht q hq).2)
 subst e2
 have := hc.symm.trans hs.blk
 injection this with this
 injection this with _ e2
 exact (ht q hq).1 e2
theorem own_lt {e : Nat} {xs : List Int} {v : Value} {base : Nat} {ok : Nat → Prop} (h : Kd.R kB e w base ok v xs) (k : Nat) (hk : v.ownBlock = some k) : k < w.heap.size ∧ ∃ cells, w.heap[k]? = some (.cells cells e (0, 0)) := by
 obtain ⟨_, inner, ho, _⟩ := h
 obtain ⟨cells, hc⟩ := own_typed ho k hk
 exact ⟨blk_lt hc, cells, hc⟩
theorem RB_chg {xs : List Int} {v : Value} (h : RB w v xs) (hs : DS w D d vl vg vb) (c : Chg w w' D vb v') (hne : ∀ k, v.ownBlock = some k → some k ≠ vb.ownBlock) : RB w' v xs := by
 refine Kd.R_mono (Kd.R_move (Kd.R_tight2 rfl h) (fun k hk => ?_)) (fun k hk => trivial)
 obtain ⟨hlt, cells, hc⟩ := own_lt h k hk.1.symm
 refine c.block k hlt (fun e2 => ?_) (hne k hk.1.symm)
 subst e2
 have := hc.symm.trans hs.blk
 injection this with this
 injection this with _ e2
 exact absurd e2 (by decide)
theorem pair_ne : ∀ q, q ∈ 126 :: kPr.E → q ≠ 72 ∧ 5 ≠ q := by
 intro q hq
 have : q = 126 := by
  rcases List.mem_cons.1 hq with rfl | hq
  ·rfl
  ·exact absurd hq (List.not_mem_nil)
 subst this
 decide
end
structure TW (w1 w : World) (P Q : Nat) (dp dq : Dc) (pl pg pb ql qg qb v : Value) (L : List (List Int)) : Prop where
 dsp : DS w P dp pl pg pb
 dsq : DS w Q dq ql qg qb
 ne : P ≠ Q
 sep : ∀ k, pb.ownBlock = some k → some k ≠ qb.ownBlock
 hp : w1.heap.size ≤ P
 hq : w1.heap.size ≤ Q
 op : ∀ k, pb.ownBlock = some k → w1.heap.size ≤ k
 oq : ∀ k, qb.ownBlock = some k → w1.heap.size ≤ k
 bel : Below w1.heap.size w1 w
 row : Kd.R (kBl w1) 22 w w1.heap.size (fun k => w1.heap.size ≤ k) v L
section
variable {w1 w w' : World} {P Q : Nat} {dp dq d' : Dc} {pl pg pb ql qg qb v pl' pg' pb' : Value} {L : List (List Int)}
theorem TW.swap (t : TW w1 w P Q dp dq pl pg pb ql qg qb v L) : TW w1 w Q P dq dp ql qg qb pl pg pb v L :=
 ⟨t.dsq, t.dsp, t.ne.symm, fun k hk e => t.sep k e.symm hk.symm, t.hq, t.hp, t.oq, t.op, t.bel, t.row⟩
theorem TW.below (t : TW w1 w P Q dp dq pl pg pb ql qg qb v L) (hb : Below w.heap.size w w') : TW w1 w' P Q dp dq pl pg pb ql qg qb v L :=
 ⟨t.dsp.below hb, t.dsq.below hb, t.ne, t.sep, t.hp, t.hq, t.op, t.oq, below_step t.bel hb, Kd.R_below t.row hb⟩
theorem TW.step (t : TW w1 w P Q dp dq pl pg pb ql qg qb v L) (k : DT w pb w' P d' pl' pg' pb') : TW w1 w' P Q d' dq pl' pg' pb' ql qg qb v L := by
 have hlt := t.bel.size
 refine ⟨k.ds, ⟨(k.ch.block Q t.dsq.lt t.ne.symm (DS_own_ne t.dsp t.dsq.blk (by decide))).trans t.dsq.blk, R_chg t.dsq.hl t.dsp k.ch pair_ne, R_chg t.dsq.hg t.dsp k.ch pair_ne, RB_chg t.dsq.hb t.dsp k.ch (fun j hj e => t.sep j e.symm hj.symm)⟩, t.ne, fun j hj e => ?_, t.hp, t.hq, fun j hj => ?_, t.oq, k.ch.below hlt t.hp t.op t.bel, R_chg t.row t.dsp k.ch (fun q hq => ?_)⟩
 ·have hq := (own_lt t.dsq.hb j e.symm).1
  rcases k.ch.own with e2 | e2 | ⟨b, e2, hb⟩
  ·exact t.sep j (e2 ▸ hj) e
  ·rw [e2] at hj; cases hj
  ·rw [e2] at hj; injection hj with hj; omega
 ·rcases k.ch.own with e2 | e2 | ⟨b, e2, hb⟩
  ·exact t.op j (e2 ▸ hj)
  ·rw [e2] at hj; cases hj
  ·rw [e2] at hj; injection hj with hj; omega
 ·have : q = 22 := by
   rcases List.mem_cons.1 hq with rfl | hq
   ·rfl
   ·exact absurd hq (List.not_mem_nil)
  subst this
  decide
theorem TW.dg (t : TW w1 w P Q dp dq pl pg pb ql qg qb v L) (hG : Glob w1) (h6 : 6 ≤ w1.heap.size) : DG w P pb := ⟨hG.below t.bel, Nat.le_trans h6 t.hp, fun k hk => Nat.le_trans h6 (t.op k hk)⟩
theorem TW.big (t : TW w1 w P Q dp dq pl pg pb ql qg qb v L) (h6 : 6 ≤ w1.heap.size) : 6 ≤ w.heap.size := Nat.le_trans h6 t.bel.size
theorem TW.at_ {A : Option Addr} {N c : Nat} (t : TW w1 w P Q dp dq pl pg pb ql qg qb (.slice A N c) L) (i : Nat) (hi : i < L.length) : ∃ ad A1 c1, A = some ad ∧ w.cell? (ad.add i) = some (.slice A1 (L.getD i []).length c1) ∧ (L.getD i []).length ≤ c1 ∧ Kd.C kB w A1 (L.getD i []).length (L.getD i []) ∧ (∀ a, A1 = some a → a.block ≠ P ∧ some a.block ≠ pb.ownBlock) ∧ ∀ a, A1 = some a → a.block < w1.heap.size := by
 obtain ⟨hn, _, hC⟩ := Kd.R_reads' t.row
 obtain ⟨ad, cs, e, hs, hr, hc⟩ := ReadsRow.get_ hC [] (i : Int) (by omega) (by omega)
 rw [Int.toNat_natCast] at hr hc
 obtain ⟨A1, c1, rfl, h1, h2, h3⟩ := hr
 have := hc 0 _ rfl
 rw [Nat.add_zero, show i * (kBl w1).sz = i from Nat.mul_one _] at this
 exact ⟨ad, A1, c1, e, this, h1, Kd.C_below h2 t.bel, fun a ha => ⟨by have := h3 a ha; have := t.hp; omega, fun e2 => by have := h3 a ha; have := t.op _ e2.symm; omega⟩, h3⟩
theorem TW.at512 {ad : Addr} {N c : Nat} (t : TW w1 w P Q dp dq pl pg pb ql qg qb (.slice (some ad) N c) L) (i : Nat) (hi : i < L.length) {B : List Int} (hB : L.getD i [] = B) (h5 : B.length = 512) : ∃ A1 c1, w.cell? (ad.add i) = some (.slice A1 512 c1) ∧ 512 ≤ c1 ∧ Kd.C kB w A1 B.length B ∧ (∀ a, A1 = some a → a.block ≠ P ∧ some a.block ≠ pb.ownBlock) := by
 obtain ⟨ad2, A1, c1, e, h1, h2, h3, h4, _⟩ := t.at_ i hi
 injection e with e
 subst e
 rw [hB] at h1 h2 h3
 rw [h5] at h1 h2
 exact ⟨A1, c1, h1, h2, h3, h4⟩
end
abbrev evG (k : Int) (h : HdP) (va vb : Value) : Array Value := #[.int .i64 k, .int .i64 h.f0, .string h.f1, .string h.f2, .int .i64 h.f3, .int .i64 h.f4, .int .i64 h.f5, .int .i64 h.f6, .int .i64 h.f7.f0, .int .i64 h.f7.f1, .string h.f8, .string h.f9, .int .i64 h.f10, .int .i64 h.f11, va, vb]
def kndE : EvV → Int
 | .none => 0
 | .item _ => 1
 | .data _ => 2
 | .fin => 3
def hdE : EvV → HdP
 | .item h => h
 | _ => hd0
theorem EvR.form {w : World} {ev : EvV} {cs : Array Value} (h : EvR w ev cs) : ∃ va vb, cs = evG (kndE ev) (hdE ev) va vb ∧ RP w va (hdE ev).f12 ∧ vb.oneCell' = true := by
 cases ev with
 | none =>
  obtain rfl : cs = evA := h
  exact ⟨_, _, rfl, R_nil0 _ _ _, rfl⟩
 | item x =>
  obtain ⟨v, rfl, hv⟩ := h
  exact ⟨_, _, rfl, hv, rfl⟩
 | data l =>
  obtain ⟨v, rfl, hv⟩ := h
  exact ⟨_, _, rfl, R_nil0 _ _ _, R_one hv⟩
 | fin =>
  obtain rfl : cs = evE := h
  exact ⟨_, _, rfl, R_nil0 _ _ _, rfl⟩
theorem fold_f12 : ∀ (l : List Pr) (h : HdP), (l.foldl stepH h).f12.length ≤ h.f12.length + l.length
 | [], h => Nat.le_refl _
 | q :: t, h => by
  have := fold_f12 t (stepH h q)
  have h2 : (stepH h q).f12.length ≤ h.f12.length + 1 := by
   unfold stepH
   split
   ·rw [sayV_ex]; omega
   ·show (h.f12 ++ [q]).length ≤ _
    rw [List.length_append]; exact Nat.le_refl _
  rw [List.foldl_cons, List.length_cons]
  omega
theorem item_f12 (l : List Int) (r : Raw) (p : Pend) : (itemC l r p).1.f12.length ≤ p.glo.length + p.loc.length := by
 have he : ∀ (x : HdP) (k : Int) (b : Bool), (endV x k b).1.f12.length ≤ x.f12.length := by
  intro x k b
  unfold endV
  split
  ·exact Nat.zero_le _
  ·split
   ·exact Nat.zero_le _
   ·exact Nat.le_refl _
 unfold itemC
 split
 ·exact Nat.zero_le _
 ·split
  ·exact Nat.zero_le _
  ·refine Nat.le_trans (he _ _ _) ?_
   unfold laidH
   rw [cut_f12]
   have := fold_f12 (layP p.glo p.loc) (rawH l r (nameC r p) (if 0 ≤ p.aL then p.link else r.link))
   have h2 := lay_len p.glo p.loc
   have h3 : (rawH l r (nameC r p) (if 0 ≤ p.aL then p.link else r.link)).f12.length = 0 := rfl
   omega
theorem blk_f12 (d : Dc) (l : List Int) : (hdE (blkC d l).2.1).f12.length ≤ d.p.glo.length + d.p.loc.length := by
 have hf : ∀ (x : Dc) (c a : Int), (hdE (failC x c a).2.1).f12.length = 0 := fun _ _ _ => rfl
 unfold blkC
 split
 ·exact Nat.zero_le _
 split
 ·exact Nat.zero_le _
 split
 ·split <;> exact Nat.zero_le _
 split
 ·split <;> exact Nat.zero_le _
 split
 ·split
  ·exact Nat.zero_le _
  ·unfold edC
   split <;> exact Nat.zero_le _
 split
 ·exact Nat.zero_le _
 ·unfold headC
  split
  ·exact Nat.zero_le _
  split
  ·split
   ·exact Nat.zero_le _
   split
   ·exact Nat.zero_le _
   split <;> exact Nat.zero_le _
  split
  ·exact Nat.zero_le _
  ·exact item_f12 l (getR l).1 d.p
theorem sumB_le (B : Nat) : ∀ (l : List Pr), (∀ x ∈ l, x.f0.size + x.f1.size ≤ B) → sumB l ≤ B * l.length
 | [], _ => Nat.zero_le _
 | q :: t, h => by
  have h1 := sumB_le B t (fun x hx => h x (List.mem_cons_of_mem _ hx))
  have h2 := h q (List.mem_cons_self ..)
  have h3 : sumB (q :: t) = (q.f0.size + q.f1.size) + sumB t := rfl
  rw [List.length_cons, Nat.mul_succ]
  omega
theorem DM.bytes {n : Nat} {d : Dc} (h : DM n d) (hn : n ≤ 29) : ∃ bl bg, over_Bytes.f 1000000 d.p.loc = some bl ∧ over_Bytes.f 1000000 d.p.glo = some bg := by
 have hl : d.p.loc.length ≤ 14848 := by have := h.lo; omega
 have hg : d.p.glo.length ≤ 435000 := by have := h.gl; omega
 have s1 := sumB_le 14848 d.p.loc (fun x hx => by have := h.sz x (List.mem_append_right _ hx); omega)
 have s2 := sumB_le 14848 d.p.glo (fun x hx => by have := h.sz x (List.mem_append_left _ hx); omega)
 exact ⟨_, _, obytes_is _ (by omega) (by omega) _ (by omega), obytes_is _ (by omega) (by omega) _ (by omega)⟩
theorem same_zero (w : World) : Calls Tryz.prog 17 #[.agg evA, .agg evA] w fun e w' => e = .returned (.bool true) ∧ Below w.heap.size w w' :=
 same_calls 0 hd0 [] none 0 none 0 none 0 none 0 w (Kd.R_reads' (R_nil0 kPr 126 w)).2.2 (Nat.le_refl 0) (Kd.R_reads' (R_nil0 kPr 126 w)).2.2 (Nat.le_refl 0) (Nat.zero_le _) (Kd.R_reads' (R_nil0 kB 5 w)).2.2 (Nat.le_refl 0) (Kd.R_reads' (R_nil0 kB 5 w)).2.2 (Nat.le_refl 0)
end Go.Proofs.YtedglegjghokfaaGreatDoor.P
namespace Go.Proofs.YtedglegjghokfaaGreatDoor.P
open Go.RowKit Go.Proofs.YtedglegjghokfaaGreatDoorW.PrintWords Go.Proofs.YtedglegjghokfaaGreatDoorW.PrintLast Go.Proofs.YtedglegjghokfaaGreatDoorW.PrintMore
open Go.Proofs.YtedglegjghokfaaGreatDoor
set_option linter.unusedVariables false
attribute [local go_sem] Oper.semAt_some
set_option maxRecDepth 100000 in
set_option maxHeartbeats 12800000 in
theorem args_calls (A0 : Option Addr) (c0 : Nat) (l0 : List Int) (A1 : Option Addr) (n1 c1 : Nat) (w : World) (hG : Glob w) (h6 : 6 ≤ w.heap.size) (hr0 : Kd.C kB w A0 l0.length l0) (hc0 : l0.length ≤ c0) (hcm : c0 ≤ 9223372036854775807) (hb : byteL l0 = true) (hbk : ∀ ad, A0 = some ad → 512 ≤ l0.length → ad.block < w.heap.size) :
  Calls Tryz.prog 4 #[.slice A0 l0.length c0, .slice A1 n1 c1] w fun e w' => e = .returned (.bool true) ∧ Below w.heap.size w w' := by
 have hu := Tryz.underlying22
 obtain ⟨n0, hn0⟩ : ∃ n, l0.length = n := ⟨_, rfl⟩
 have HR0 := Lib.hid (And.intro hr0 (And.intro hc0 (And.intro hcm (And.intro hb hbk))))
 have HL := Lib.hid hn0
 have HG := Lib.hid hG
 have H6 := Lib.hid h6
 rw [hn0]
 by_cases q1 : 8000 < n0
 ·have d1 : decide ((8000 : Int) < (n0 : Int)) = true := by simp; omega
  clear hG h6 hr0 hc0 hcm hb hbk hn0 q1
  go_enter Tryz.func4, Tryz.ntmps4
  go_wp2_with fail
  refine (alive_calls _ HG.out H6.out).mono ?_
  rintro e w1 ⟨rfl, hb1⟩
  have HB1 := Lib.hid hb1
  clear hb1
  go_wp2_with fail
  go_ret
  exact ⟨rfl, HB1.out⟩
 have d1 : decide ((8000 : Int) < (n0 : Int)) = false := by simp; omega
 by_cases q2 : 2000 < n1
 ·have d2 : decide ((2000 : Int) < (n1 : Int)) = true := by simp; omega
  clear hG h6 hr0 hc0 hcm hb hbk hn0 q1 q2
  go_enter Tryz.func4, Tryz.ntmps4
  go_wp2_with fail
  refine (alive_calls _ HG.out H6.out).mono ?_
  rintro e w1 ⟨rfl, hb1⟩
  have HB1 := Lib.hid hb1
  clear hb1
  go_wp2_with fail
  go_ret
  exact ⟨rfl, HB1.out⟩
 have d2 : decide ((2000 : Int) < (n1 : Int)) = false := by simp; omega
 by_cases q3 : n1 = 512
 ·have d3 : ((n1 : Int) == 512) = true := by simp; omega
  clear hG h6 hr0 hc0 hcm hb hbk hn0 q1 q2 q3
  go_enter Tryz.func4, Tryz.ntmps4
  go_wp2_with fail
  refine (alive_calls _ HG.out H6.out).mono ?_
  rintro e w1 ⟨rfl, hb1⟩
  have HB1 := Lib.hid hb1
  clear hb1
  go_wp2_with fail
  go_ret
  exact ⟨rfl, HB1.out⟩
 have d3 : ((n1 : Int) == 512) = false := by simp; omega
 have HQ3 := Lib.hid q3
 have HQ1 := Lib.hid (show n0 ≤ 8000 by omega)
 obtain ⟨N, hN⟩ : ∃ N, n0 / 512 = N := ⟨_, rfl⟩
 have HN := Lib.hid hN
 clear hG h6 hr0 hc0 hcm hb hbk hn0 q1 q2 q3 hN
 go_enter Tryz.func4, Tryz.ntmps4
 go_wp2_with fail
 refine (alive_calls _ HG.out H6.out).mono ?_
 rintro e w1 ⟨rfl, hb1⟩
 have HG1 := Lib.hid (HG.out.below hb1)
 have HB1 := Lib.hid hb1
 have H61 := Lib.hid (Nat.le_trans H6.out hb1.size)
 have HCUT := cut_calls A0 c0 l0 w1 (Kd.C_below HR0.out.1 hb1) HR0.out.2.1 HR0.out.2.2.1 (by have := HQ1.out; have := HL.out; omega) (fun ad e h5 => Nat.lt_of_lt_of_le (HR0.out.2.2.2.2 ad e h5) hb1.size)
 rw [HL.out, HN.out] at HCUT
 have HCUT := Lib.hid HCUT
 clear hb1
 go_wp2_with fail
 refine HCUT.out.mono ?_
 clear HCUT
 rintro e w2 ⟨v5, v6, rfl, hrow, hb2⟩
 obtain ⟨A5, c5, rfl, hc5, _⟩ := Kd.R_reads hrow
 rw [cutB_len] at hrow hc5 ⊢
 have HROW := Lib.hid hrow
 have HB2 := Lib.hid hb2
 clear hrow hb2 hc5
 go_wp2_with fail
 refine (new_calls _).mono ?_
 rintro e w3 ⟨rfl, hds3, hb3⟩
 have HD3 := Lib.hid hds3
 have HB3 := Lib.hid (below_step HB2.out hb3)
 have HROW3 := Lib.hid (Kd.R_below HROW.out hb3)
 have HS3 := Lib.hid HB2.out.size
 clear hds3 hb3 HROW
 go_wp2_with fail
 refine (new_calls _).mono ?_
 rintro e w4 ⟨rfl, hds4, hb4⟩
 have HT := Lib.hid (show TW w1 w4 w2.heap.size w3.heap.size dZero dZero (.slice none 0 0) (.slice none 0 0) (.slice none 0 0) (.slice none 0 0) (.slice none 0 0) (.slice none 0 0) (.slice A5 N c5) (cutB N l0) from
  ⟨HD3.out.below hb4, hds4, Nat.ne_of_lt HD3.out.lt, fun k hk => by simp [Value.ownBlock] at hk, HS3.out, HB3.out.size, fun k hk => by simp [Value.ownBlock] at hk, fun k hk => by simp [Value.ownBlock] at hk, below_step HB3.out hb4, Kd.R_below HROW3.out hb4⟩)
 clear hds4 hb4 HD3 HROW3
 obtain ⟨P, hP⟩ : ∃ P, w2.heap.size = P := ⟨_, rfl⟩
 obtain ⟨Q, hQ⟩ : ∃ Q, w3.heap.size = Q := ⟨_, rfl⟩
 rw [hP, hQ] at HT
 simp only [hP, hQ]
 clear hP hQ HS3 HB3 HB2
 go_wp2_with fail
 go_loopg [9] (N) (fun gk v9 wr => ∃ (x : Int), v9 = .int .i64 x ∧ Aside0 (∃ (i : Nat) (d : Dc) (pl pg pb ql qg qb : Value), x = (i : Int) ∧ i + gk = N ∧ DN i d ∧ TW w1 wr P Q d d pl pg pb ql qg qb (.slice A5 N c5) (cutB N l0)))
 case atStart => exact ⟨0, rfl, ⟨0, dZero, _, _, _, _, _, _, rfl, by omega, zero_keep, HT.out⟩⟩
 case round =>
  clear HT
  obtain ⟨x, rfl, HM⟩ := hrel
  obtain ⟨i, d, pl, pg, pb, ql, qg, qb, hx, hn, hd, ht⟩ := HM.out
  cases gk with
  | zero =>
   have hlt : decide (x < (N : Int)) = false := by simp; omega
   have HBW := Lib.hid (below_step HB1.out ht.bel)
   clear hx hn hd ht HM
   go_wp2_with fail
   refine (noblock_calls _ _).mono ?_
   rintro e w5 ⟨rfl, hb5⟩
   replace HBW := Lib.hid (below_step HBW.out hb5)
   clear hb5
   go_wp2_with ((with_reducible refine wpList_store_fresh rfl 35 (.tmp 17) (.tmp 118) rfl evA evA 35 rfl rfl rfl (by kernel_rfl) (by kernel_rfl) ?_); intro w6 bx6 hb6; replace HBW := Lib.hid (below_step HBW.out hb6); have kz0 := blk_cell bx6 0; have kz1 := blk_cell bx6 1; have kz2 := blk_cell bx6 2; have kz3 := blk_cell bx6 3; have kz4 := blk_cell bx6 4; have kz5 := blk_cell bx6 5; have kz6 := blk_cell bx6 6; have kz7 := blk_cell bx6 7; have kz8 := blk_cell bx6 8; have kz9 := blk_cell bx6 9; have kz10 := blk_cell bx6 10; have kz11 := blk_cell bx6 11; have kz12 := blk_cell bx6 12; have kz13 := blk_cell bx6 13; have kz14 := blk_cell bx6 14; have kz15 := blk_cell bx6 15; clear bx6 hb6)
   refine (same_zero _).mono ?_
   rintro e w7 ⟨rfl, hb7⟩
   replace HBW := Lib.hid (below_step HBW.out hb7)
   clear hb7
   go_wp2_with fail
   refine (nostop_calls true _).mono ?_
   rintro e w8 ⟨rfl, hb8⟩
   replace HBW := Lib.hid (below_step HBW.out hb8)
   clear hb8
   go_wp2_with fail
   refine (nofault_calls _).mono ?_
   rintro e w9 ⟨rfl, hb9⟩
   replace HBW := Lib.hid (below_step HBW.out hb9)
   clear hb9
   go_wp2_with fail
   refine (noblocks_calls _).mono ?_
   rintro e w10 ⟨rfl, rfl⟩
   go_wp2_with fail
   refine (noheld_calls _).mono ?_
   rintro e w11 ⟨rfl, rfl⟩
   go_wp2_with fail
   go_ret
   exact ⟨rfl, HBW.out⟩
  | succ kk =>
   have hi : i < N := by omega
   have h0' : (0 : Int) ≤ x := by omega
   have h1' : x < (N : Int) := by omega
   have hlt : decide (x < (N : Int)) = true := decide_eq_true h1'
   have hNs : N ≤ 15 := by have := HN.out; have := HQ1.out; omega
   have hLl : (cutB N l0).length = N := cutB_len N l0
   obtain ⟨ad, A2, c2, rfl, hcell, hc2, hC2, hsp, hlow⟩ := ht.at_ i (by rw [hLl]; exact hi)
   obtain ⟨B, hB⟩ : ∃ B, (cutB N l0).getD i [] = B := ⟨_, rfl⟩
   have hBm : B ∈ cutB N l0 := by
    rw [← hB, List.getD_eq_getElem?_getD, List.getElem?_eq_getElem (by rw [hLl]; exact hi)]
    exact List.getElem_mem _
   obtain ⟨hB5, hBb⟩ := cutB_at N l0 (by have := HN.out; have := HL.out; omega) B hBm
   have hBy : byteL B = true := byteL_iff.2 fun c hc => byteL_iff.1 HR0.out.2.2.2.1 c (hBb c hc)
   rw [hB] at hcell hc2 hC2
   rw [hB5] at hcell hc2
   have hxn : x.toNat = i := by omega
   have hw : wrap64 (x + 1) = ((i + 1 : Nat) : Int) := by rw [hx, show (i : Int) + 1 = ((i + 1 : Nat) : Int) by omega, w64n _ (by omega)]
   obtain ⟨r, hr⟩ : ∃ r, blkC d B = r := ⟨_, rfl⟩
   have HW := Lib.hid hw
   have HGB := Lib.hid hB
   have HNN := Lib.hid (show x = (i : Int) ∧ i + (kk + 1) = N ∧ N ≤ 15 from ⟨hx, hn, hNs⟩)
   have HDN := Lib.hid hd
   have HT := Lib.hid ht
   have HBB := Lib.hid (And.intro hB5 (And.intro hBy hr))
   have HCC := Lib.hid (And.intro hc2 (And.intro hC2 (And.intro hsp hlow)))
   clear hx hn hd ht HM hi hNs hLl hc2 hC2 hsp hlow hB hBm hB5 hBb hBy hr hw
   have HB8 : Hid (B.length = 512 ∧ (cutB N l0).getD i [] = B ∧ i < (cutB N l0).length) := Lib.hid ⟨HBB.out.1, HGB.out, by rw [cutB_len]; have := HNN.out; omega⟩
   go_wp2_with fail
   refine (block512 HT.out.dsp.start (HT.out.dg HG1.out H61.out) (HT.out.big H61.out) (HDN.out.di (by have := HNN.out; omega)) A2 c2 B HCC.out.2.1 HCC.out.1 HBB.out.1 HBB.out.2.1 HCC.out.2.2.1 HBB.out.2.2).mono ?_
   rintro e w5 ⟨cs, pl2, pg2, pb2, rfl, he, hk⟩
   obtain ⟨ef1, ef2, ef3⟩ := ev_form he
   obtain ⟨va, vb, rfl, hva, hvb⟩ := he.form
   have hf12 : (hdE r.2.1).f12.length ≤ 1000000 := by
    have h1 := blk_f12 d B
    rw [HBB.out.2.2] at h1
    have h2 := HDN.out.dm
    have h3 := h2.gl
    have h4 := h2.lo
    have := HNN.out
    omega
   obtain ⟨KE, hKE⟩ : ∃ k, kndE r.2.1 = k := ⟨_, rfl⟩
   obtain ⟨HE, hHE⟩ : ∃ k, hdE r.2.1 = k := ⟨_, rfl⟩
   rw [hKE, hHE] at ef1 ef2 ef3
   rw [hHE] at hva hf12
   obtain ⟨Av, cv, rfl, hcv, _⟩ := Kd.R_reads hva
   have HKH := Lib.hid (And.intro hKE (And.intro hHE hf12))
   have HVA := Lib.hid hva
   have HE1 := Lib.hid ef1
   have HE2 := Lib.hid ef2
   have HE3 := Lib.hid ef3
   have HT5 := Lib.hid (HT.out.step hk)
   rw [hKE, hHE]
   clear he ef1 ef2 ef3 hva hvb hf12 hcv hk hKE hHE hcell
   go_wp2_with ((with_reducible refine wpList_store_fresh rfl 35 (.tmp 10) (.tmp 54) rfl evA (evG KE HE (.slice Av HE.f12.length cv) vb) 35 rfl rfl HE1.out HE2.out HE3.out ?_); intro w6 bx6 hb6; have HX6 := Lib.hid bx6; have HT6 := Lib.hid (HT5.out.below hb6); have HVA6 := Lib.hid (Kd.R_below HVA.out hb6); clear bx6 hb6)
   refine (odd_calls Q A1 n1 c1 _ HQ3.out).mono ?_
   rintro e w7 ⟨rfl, hb7⟩
   have HX7 := Lib.hid (blk_below HX6.out hb7)
   have HT7 := Lib.hid (HT6.out.below hb7)
   have HVA7 := Lib.hid (Kd.R_below HVA6.out hb7)
   clear hb7
   go_wp2_with ((with_reducible refine wpList_store_fresh rfl 35 (.tmp 12) (.tmp 60) rfl evA evA 35 rfl rfl rfl (by kernel_rfl) (by kernel_rfl) ?_); intro w8 bx8 hb8; have HZ8 := Lib.hid bx8; have HX8 := Lib.hid (blk_below HX7.out hb8); have HT8 := Lib.hid (HT7.out.below hb8); have HVA8 := Lib.hid (Kd.R_below HVA7.out hb8); obtain ⟨A8, c8, hcell8, hc8, hC8, hsp8⟩ := HT8.out.swap.at512 i HB8.out.2.2 HB8.out.2.1 HB8.out.1; have HCC8 := Lib.hid (And.intro hc8 (And.intro hC8 hsp8)); clear bx8 hb8 hc8 hC8 hsp8)
   refine (block512 HT8.out.swap.dsp.start (HT8.out.swap.dg HG1.out H61.out) (HT8.out.big H61.out) (HDN.out.di (by have := HNN.out; omega)) A8 c8 B HCC8.out.2.1 HCC8.out.1 HBB.out.1 HBB.out.2.1 HCC8.out.2.2 HBB.out.2.2).mono ?_
   rintro e w9 ⟨cs, ql2, qg2, qb2, rfl, he, hk⟩
   obtain ⟨ef1, ef2, ef3⟩ := ev_form he
   obtain ⟨va, vb2, rfl, hva, hvb⟩ := he.form
   rw [HKH.out.1, HKH.out.2.1] at ef1 ef2 ef3
   rw [HKH.out.2.1] at hva
   obtain ⟨Aw, cw, rfl, hcw, _⟩ := Kd.R_reads hva
   have HT9 := Lib.hid (HT8.out.swap.step hk).swap
   have HX9 := Lib.hid (blk_chg HT8.out.swap.dsp hk.ch HX8.out rfl)
   have HZ9 := Lib.hid (blk_chg HT8.out.swap.dsp hk.ch HZ8.out rfl)
   have HVA9 := Lib.hid (R_chg HVA8.out HT8.out.swap.dsp hk.ch pair_ne)
   have HVB9 := Lib.hid hva
   have HF1 := Lib.hid ef1
   have HF2 := Lib.hid ef2
   have HF3 := Lib.hid ef3
   rw [HKH.out.1, HKH.out.2.1]
   clear he ef1 ef2 ef3 hva hvb hcw hk hcell8
   go_wp2_with ((with_reducible refine wpList_store_fresh rfl 35 (.tmp 14) (.tmp 69) rfl evA (evG KE HE (.slice Aw HE.f12.length cw) vb2) 35 rfl rfl HF1.out HF2.out HF3.out ?_); intro w10 bx10 hb10; have HY10 := Lib.hid bx10; have HX10 := Lib.hid (blk_below HX9.out hb10); have HZ10 := Lib.hid (blk_below HZ9.out hb10); have HT10 := Lib.hid (HT9.out.below hb10); have HVA10 := Lib.hid (Kd.R_below HVA9.out hb10); have HVB10 := Lib.hid (Kd.R_below HVB9.out hb10); have kz0 := blk_cell HZ10.out 0; have kz1 := blk_cell HZ10.out 1; have kz2 := blk_cell HZ10.out 2; have kz3 := blk_cell HZ10.out 3; have kz4 := blk_cell HZ10.out 4; have kz5 := blk_cell HZ10.out 5; have kz6 := blk_cell HZ10.out 6; have kz7 := blk_cell HZ10.out 7; have kz8 := blk_cell HZ10.out 8; have kz9 := blk_cell HZ10.out 9; have kz10 := blk_cell HZ10.out 10; have kz11 := blk_cell HZ10.out 11; have kz12 := blk_cell HZ10.out 12; have kz13 := blk_cell HZ10.out 13; have kz14 := blk_cell HZ10.out 14; have kz15 := blk_cell HZ10.out 15; clear bx10 hb10)
   refine (same_zero _).mono ?_
   rintro e w11 ⟨rfl, hb11⟩
   have HX11 := blk_below HX10.out hb11
   have HY11 := blk_below HY10.out hb11
   have kx0 := blk_cell HX11 0
   have kx1 := blk_cell HX11 1
   have kx2 := blk_cell HX11 2
   have kx3 := blk_cell HX11 3
   have kx4 := blk_cell HX11 4
   have kx5 := blk_cell HX11 5
   have kx6 := blk_cell HX11 6
   have kx7 := blk_cell HX11 7
   have kx8 := blk_cell HX11 8
   have kx9 := blk_cell HX11 9
   have kx10 := blk_cell HX11 10
   have kx11 := blk_cell HX11 11
   have kx12 := blk_cell HX11 12
   have kx13 := blk_cell HX11 13
   have kx14 := blk_cell HX11 14
   have ky0 := blk_cell HY11 0
   have ky1 := blk_cell HY11 1
   have ky2 := blk_cell HY11 2
   have ky3 := blk_cell HY11 3
   have ky4 := blk_cell HY11 4
   have ky5 := blk_cell HY11 5
   have ky6 := blk_cell HY11 6
   have ky7 := blk_cell HY11 7
   have ky8 := blk_cell HY11 8
   have ky9 := blk_cell HY11 9
   have ky10 := blk_cell HY11 10
   have ky11 := blk_cell HY11 11
   have ky12 := blk_cell HY11 12
   have ky13 := blk_cell HY11 13
   have ky14 := blk_cell HY11 14
   have HT11 := Lib.hid (HT10.out.below hb11)
   have HVA11 := Lib.hid (Kd.R_below HVA10.out hb11)
   have HVB11 := Lib.hid (Kd.R_below HVB10.out hb11)
   clear hb11 HX11 HY11 kz0 kz1 kz2 kz3 kz4 kz5 kz6 kz7 kz8 kz9 kz10 kz11 kz12 kz13 kz14 kz15
   go_wp2_with fail
   refine (head_self HE.f0 HE.f1 HE.f2 HE.f3 HE.f4 HE.f5 HE.f6 HE.f7.f0 HE.f7.f1 HE.f8 HE.f9 HE.f10 HE.f11 HE.f12 Av cv Aw cw _ (Kd.R_reads' HVA11.out).2.2 (Kd.R_reads' HVA11.out).2.1 (Kd.R_reads' HVB11.out).2.2 (Kd.R_reads' HVB11.out).2.1 (by have := HKH.out.2.2; omega)).mono ?_
   rintro e w12 ⟨rfl, hb12⟩
   have HT12 := Lib.hid (HT11.out.below hb12)
   have hdn := blk_keep (by have := HNN.out; omega) HDN.out B HBB.out.1 HBB.out.2.1
   rw [HBB.out.2.2] at hdn
   have HDN2 := Lib.hid hdn
   clear hb12 hdn
   clear kx0 ky0 kx1 ky1 kx2 ky2 kx3 ky3 kx4 ky4 kx5 ky5 kx6 ky6 kx7 ky7 kx8 ky8 kx9 ky9 kx10 ky10 kx11 ky11 kx12 ky12 kx13 ky13 kx14 ky14
   go_wp2_with fail
   obtain ⟨bl, bg, hbl, hbg⟩ := HDN2.out.dm.bytes (by have := HNN.out; omega)
   have HBL := Lib.hid (And.intro hbl hbg)
   clear hbl hbg
   refine (held_calls HT12.out.dsp.start 1000000 bl bg HBL.out.1 HBL.out.2).mono ?_
   rintro e w13 ⟨rfl, hk⟩
   have HT13 := Lib.hid (HT12.out.step hk)
   clear hk
   go_wp2_with fail
   refine (held_calls HT13.out.swap.dsp.start 1000000 bl bg HBL.out.1 HBL.out.2).mono ?_
   rintro e w14 ⟨rfl, hk⟩
   have HT14 := Lib.hid (HT13.out.swap.step hk).swap
   clear hk
   go_wp2_with fail
   refine (blocks_calls HT14.out.dsp).mono ?_
   rintro e w15 ⟨rfl, rfl⟩
   go_wp2_with fail
   refine (blocks_calls HT14.out.dsq).mono ?_
   rintro e w16 ⟨rfl, rfl⟩
   go_wp2_with fail
   go_roundg kk
   case measure => omega
   case rel => exact ⟨_, rfl, ⟨i + 1, r.1, _, _, _, _, _, _, HW.out, by have := HNN.out; omega, HDN2.out, HT14.out⟩⟩
end Go.Proofs.YtedglegjghokfaaGreatDoor.P
namespace Go.Proofs.YtedglegjghokfaaGreatDoor
open Go.ChangeShapes Go.WideShapes Go.RowKit
theorem lays260 : Go.Proofs.Lays.n260 Tryz.prog Tryz.lays197_ren where
 mixed := Tryz.lays197.mixed
 f260 := Tryz.lays197.f260
 t0 := Tryz.lays197.t0
 a0 := Tryz.lays197.a0
 z0 := Tryz.lays197.z0
 v0 := Tryz.lays197.v0
 t3 := Tryz.lays197.t3
 a3 := Tryz.lays197.a3
 z3 := Tryz.lays197.z3
 v3 := Tryz.lays197.v3
 t4 := Tryz.lays197.t4
 a4 := Tryz.lays197.a4
 z4 := Tryz.lays197.z4
 v4 := Tryz.lays197.v4
 t5 := Tryz.lays197.t5
 a5 := Tryz.lays197.a5
 z5 := Tryz.lays197.z5
 v5 := Tryz.lays197.v5
 t9 := Tryz.lays197.t9
 a9 := Tryz.lays197.a9
 z9 := Tryz.lays197.z9
 v9 := Tryz.lays197.v9
 t21 := Tryz.lays197.t21
 a21 := Tryz.lays197.a21
 z21 := Tryz.lays197.z21
 v21 := Tryz.lays197.v21
 t46 := Tryz.lays197.t46
 a46 := Tryz.lays197.a46
 z46 := Tryz.lays197.z46
 v46 := Tryz.lays197.v46
 t119 := Tryz.lays197.t119
 a119 := Tryz.lays197.a119
 z119 := Tryz.lays197.z119
 t138 := Tryz.lays197.t138
 a138 := Tryz.lays197.a138
 z138 := Tryz.lays197.z138
 v138 := Tryz.lays197.v138
 t139 := Tryz.lays197.t139
 a139 := Tryz.lays197.a139
 z139 := Tryz.lays197.z139
 v139 := Tryz.lays197.v139
 g3 := Tryz.lays197.g3
 g4 := Tryz.lays197.g4
theorem u8extra : Go.Proofs.U8Extra Tryz.prog Tryz.lays197_ren where
 n3 := by kernel_rfl
 n4 := by kernel_rfl
 y3 := by kernel_rfl
 y4 := by kernel_rfl
 c5 := by kernel_rfl
 c119 := by kernel_rfl
 c138 := by kernel_rfl
theorem first_is : Go.Pinned.utf8First = Lib.firstData := by kernel_rfl
theorem accept_is : (Rows.laid_unicode_utf8_acceptRanges : DataW Unit) = Lib.acceptData := by kernel_rfl
theorem pow_is : (Rows.laid_internal_strconv_uint64pow10 : DataW Unit) = Lib.tabData .u64 Lib.pow10Tab := by kernel_rfl
theorem star : "*" ++ "errors.errorString" = "*errors.errorString" := by decide
theorem errRow : ∀ u, Tryz.prog.typeName? 3 u = some "*errors.errorString" → u = 283 := fun u h =>
 typeName_ptr_named (nm := "errors.errorString") (by rw [star]; kernel_rfl) (by kernel_rfl) (by decide) u (by rw [star]; exact h)
theorem glob_of {W : World} (h : laidMetH Tryz.prog Rows.stepArgsRow.laid W) (hs : W.ShapedOpen Tryz.prog) : Glob W := by
 have h0 : laidMet Tryz.prog [("math/bits.deBruijn32tab", Rows.laid_math_bits_deBruijn32tab), ("math/bits.deBruijn64tab", Rows.laid_math_bits_deBruijn64tab), ("internal/strconv.uint64pow10", Rows.laid_internal_strconv_uint64pow10), ("unicode/utf8.acceptRanges", Rows.laid_unicode_utf8_acceptRanges), ("strconv.ErrRange", Rows.laid_strconv_ErrRange), ("strconv.ErrSyntax", Rows.laid_strconv_ErrSyntax), ("unicode/utf8.first", Rows.laid_unicode_utf8_first)] W := h
 refine ⟨?_, ?_, ?_, ?_, ?_⟩
 ·have h2 := laidMet.tail (laidMet.tail h0)
  rw [pow_is] at h2
  exact Lib.tabIs_of_head (n := Lib.pow10Tab.length) (t := 293) (e := 212) (g := 5) (by kernel_rfl) (by kernel_rfl) (by kernel_rfl) (by kernel_rfl) (by kernel_rfl) (by kernel_rfl) h2
 ·have r1 := Lib.laidMet.reads h0 (n := "unicode/utf8.first") (d := Rows.laid_unicode_utf8_first) (by simp)
  have r2 := Lib.laidMet.reads h0 (n := "unicode/utf8.acceptRanges") (d := Rows.laid_unicode_utf8_acceptRanges) (by simp)
  rw [show Rows.laid_unicode_utf8_first = Lib.firstData from first_is] at r1
  rw [accept_is] at r2
  exact Go.Proofs.utf8Tabs_of_reads lays260 u8extra r1 r2
 ·obtain ⟨a, s, hv, _⟩ := laid_sentinel (tp := 283) (te := 285) (ti := 229) (ts := 9) (g := 3) (laidMet.tail (laidMet.tail (laidMet.tail (laidMet.tail (laidMet.tail h0))))) (by kernel_rfl) (by kernel_rfl) Tryz.underlying229 errRow Tryz.underlying283 Tryz.underlying285 rfl rfl Tryz.underlying9 (by kernel_rfl) (by kernel_rfl)
  exact ⟨_, _, World.var?_cell (g := 3) (by kernel_rfl) hv 0⟩
 ·obtain ⟨a, s, hv, _⟩ := laid_sentinel (tp := 283) (te := 285) (ti := 229) (ts := 9) (g := 4) (laidMet.tail (laidMet.tail (laidMet.tail (laidMet.tail h0)))) (by kernel_rfl) (by kernel_rfl) Tryz.underlying229 errRow Tryz.underlying283 Tryz.underlying285 rfl rfl Tryz.underlying9 (by kernel_rfl) (by kernel_rfl)
  exact ⟨_, _, World.var?_cell (g := 4) (by kernel_rfl) hv 0⟩
 ·exact Go.Proofs.cell_of_shapedOpen_int (g := 0) (t := 3) (zero := #[.int .i64 0]) hs (of_decide_eq_true (by kernel_rfl)) (by kernel_rfl) rfl (by kernel_rfl) (by kernel_rfl) Tryz.underlying3
end Go.Proofs.YtedglegjghokfaaGreatDoor
namespace Go.Proofs.YtedglegjghokfaaGreatDoor.stepArgs
open Go.ChangeShapes Go.WideShapes Go.ChangeAt Go.RowKit Go.Proofs.YtedglegjghokfaaGreatDoorW.PrintWords Go.Proofs.YtedglegjghokfaaGreatDoorW.PrintLast Go.Proofs.YtedglegjghokfaaGreatDoorW.PrintMore
open Go.Proofs.YtedglegjghokfaaGreatDoor.P
theorem own : ownKnob Tryz.prog.godebug = none := by kernel_rfl
theorem laidOut : laidOutB Tryz.prog = true := by kernel_rfl
theorem six {W : World} (h : Glob W) : 6 ≤ W.heap.size := var_lt glob_p10 h.p10
theorem open_bytes {H : Type} {enc : TypeId × Value → H} {W : World} {fuel : Nat} {v : Value} {x : DataW H × List MemPlace} (h : DataW.trod enc Tryz.prog W 0 (fun _ => true) true fuel 22 [v] = some x) :
  ∃ (A : Option Addr) (m : Nat) (d : List Int), v = .slice A d.length m ∧ d.length ≤ m ∧ m ≤ 9223372036854775807 ∧ Kd.C kB W A d.length d ∧ byteL d = true ∧ ∀ ad, A = some ad → 512 ≤ d.length → ad.block < W.heap.size := by
 rcases open_ints Tryz.underlying22 Tryz.underlying5 (by kernel_rfl) h with ⟨hc, _⟩ | ⟨a, len, cap, zs, hc, _, hl, hm, hz, _, hcell, hwf⟩
 ·injection hc with hc _
  subst hc
  exact ⟨none, 0, [], rfl, Nat.le_refl _, by decide, ⟨rfl, by decide, fun h => absurd h (by decide)⟩, rfl, fun _ e => by cases e⟩
 ·injection hc with hc _
  subst hc
  have hml : maxLen = 9223372036854775807 := rfl
  have hlz : len ≤ zs.length := by rw [hz]; split <;> omega
  have hlen : (zs.take len).length = len := by rw [List.length_take]; omega
  refine ⟨some a, cap, zs.take len, by rw [hlen], by rw [hlen]; exact hl, by omega, ?_, ?_, ?_⟩
  ·rw [hlen]
   refine Kd.C_of_reads (d := (0 : Int)) (h1 := fun _ => rfl) ?_
   refine ⟨hlen, by omega, fun _ => ⟨a, rfl, fun j hj => ?_⟩⟩
   rw [hcell j (by omega), List.getD_eq_getElem?_getD, List.getD_eq_getElem?_getD, List.getElem?_take, if_pos hj]
  ·refine byteL_iff.2 fun c hc => ?_
   have := hwf c (List.mem_of_mem_take hc)
   simp [Lit.wf] at this
   have e1 : IntKind.u8.min = 0 := rfl
   have e2 : IntKind.u8.max = 255 := rfl
   omega
  ·intro ad e h5
   injection e with e
   subst e
   have h0 := hcell 0 (by omega)
   have := World.block_lt_of_cell? W _ h0
   have hb : (a.add 0).block = a.block := by unfold Addr.add; split <;> rfl
   rwa [hb] at this
set_option maxRecDepth 100000 in
set_option maxHeartbeats 1600000 in
theorem contract (H : Type) (enc : TypeId × Value → H) (W : World) (base : Nat) (args : Array Value) (ds gs : List (DataW H)) (before : List MemPlace)
  (hval : ∀ (j : Nat) t v, Tryz.f4.params[j]? = some t → args[j]? = some v → Value.okWide Tryz.prog W .any base t v)
  (hW : DataW.Whole enc Tryz.prog Tryz.f4.params.toList Rows.stepArgsSpec.vars false W args.toList ds gs before)
  (hL : laidMetH Tryz.prog Rows.stepArgsRow.laid W) (hS : W.ShapedOpen Tryz.prog) :
  Calls Tryz.prog 4 args W fun e W' => ∃ v, e = .returned v ∧ Rows.stepArgsSpec.post enc Tryz.prog Tryz.f4 false true false false W args v W' := by
 have hW' := hW
 obtain ⟨p, q, hA0, hV, rfl, hfz, hnd⟩ := hW
 have hA : DataW.TrodAll enc Tryz.prog W 0 (fun _ => true) true Tryz.f4.params.toList args.toList ds p := hA0
 rw [Tryz.params4] at hA hval
 obtain ⟨v0, vs0, d0, ds0, p0, q0, hargs, rfl, rfl, h0, r0⟩ := trodAll_cons hA
 obtain ⟨v1, vs1, d1, ds1, p1, q1, rfl, rfl, rfl, h1, r1⟩ := trodAll_cons r0
 obtain ⟨rfl, rfl, rfl⟩ := trodAll_nil r1
 obtain rfl : args = #[v0, v1] := by cases args; simp_all
 obtain ⟨rfl, rfl⟩ := trodVars_none hV
 obtain ⟨a0, len0, cap0, rfl⟩ := okWide_slice Tryz.underlying22 (hval 0 22 v0 rfl rfl)
 obtain ⟨a1, len1, cap1, rfl⟩ := okWide_slice Tryz.underlying22 (hval 1 22 v1 rfl rfl)
 have h0k := h0
 have h1k := h1
 obtain ⟨fuel, hf⟩ := h0
 obtain ⟨fuel1, hf1⟩ := h1
 clear hA0
 simp only [List.append_nil] at hW'
 have hlt : ∀ x ∈ p0 ++ p1, x.block < W.heap.size := fun x hx => by simpa using hW'.lt x (by simpa using hx)
 have hback0 : ∀ (W' : World), Below W.heap.size W W' → DataW.Trod enc Tryz.prog W' 0 (fun b => decide (b < W.heap.size)) true 22 (.slice a0 len0 cap0) d0 p0 :=
  fun W' hn => Below.trod laidOut (by kernel_rfl) (of_decide_eq_true (by kernel_rfl)) h0k hn (fun x hx => hlt x (List.mem_append_left _ hx))
 have hback1 : ∀ (W' : World), Below W.heap.size W W' → DataW.Trod enc Tryz.prog W' 0 (fun b => decide (b < W.heap.size)) true 22 (.slice a1 len1 cap1) d1 p1 :=
  fun W' hn => Below.trod laidOut (by kernel_rfl) (of_decide_eq_true (by kernel_rfl)) h1k hn (fun x hx => hlt x (List.mem_append_right _ hx))
 obtain ⟨A0, m0, l0, e0, le0, mx0, C0, by0, bk0⟩ := open_bytes (v := .slice a0 len0 cap0) hf
 obtain ⟨A1, m1, l1, e1, le1, mx1, C1, by1, bk1⟩ := open_bytes (v := .slice a1 len1 cap1) hf1
 injection e0 with x0 y0 z0
 injection e1 with x1 y1 z1
 subst x0 y0 z0 x1 y1 z1
 have hG := glob_of hL hS
 have hw := args_calls a0 cap0 l0 a1 l1.length cap1 W hG (six hG) C0 le0 mx0 by0 bk0
 refine hw.mono fun e W' ⟨he, hg⟩ => ?_
 subst he
 exact ⟨_, rfl, _, _, _, [], _, [], hW', (trodAll_cons_mk (shut_bool Tryz.underlying4 _) trodAll_mk0), (trodAll_cons_mk (hback0 W' hg) (trodAll_cons_mk (hback1 W' hg) trodAll_mk0)), rfl, hg.frame _, fun h => by cases h⟩
end Go.Proofs.YtedglegjghokfaaGreatDoor.stepArgs
/- oakumlaw15.StepArgs: whatever the input, true; the input reads as_ it did. The listed package variables are tied to the program's text by the given tie. -/
namespace Go.Proofs.YtedglegjghokfaaGreatDoor.stepArgs
open Go.ChangeShapes Go.WideShapes Go.ChangeAt Go.RowKit Go.Proofs.YtedglegjghokfaaGreatDoorW.PrintWords Go.Proofs.YtedglegjghokfaaGreatDoorW.PrintLast Go.Proofs.YtedglegjghokfaaGreatDoorW.PrintMore
open Go.Proofs.YtedglegjghokfaaGreatDoor.P
noncomputable def world0 (os : Os) : World := World.laidAll Tryz.prog os Rows.stepArgsRow.laid
theorem laid_met (os : Os) : laidMetH Tryz.prog Rows.stepArgsRow.laid ((world0 os).forCall (fun _ _ => 0) ⟨#[], #[.slice none 0 0, .slice none 0 0], []⟩).memory := by
 rw [MakeChecks.laidMetH_plain _ _ _ (by kernel_rfl)]
 exact laidMet_laidAll _ (by kernel_rfl) (by kernel_rfl)
theorem reads (os : Os) {H : Type} (enc : TypeId × Value → H) : ∃ places, DataW.whole enc Tryz.prog ((world0 os).forCall (fun _ _ => 0) ⟨#[], #[.slice none 0 0, .slice none 0 0], []⟩).memory Tryz.f4.params.toList Rows.stepArgsSpec.vars false (#[.slice none 0 0, .slice none 0 0] : Array Value).toList 8 = some ([.nil, .nil], [], places) :=
 ⟨[], by kernel_rfl⟩
set_option maxRecDepth 100000 in
theorem lifted (os : Os) (started : os.Started) (H : Type) (enc : TypeId × Value → H) (F : Stop.Interp) :
  ReturnsInHanded {} Tryz.checked os 4 .any ((OpenSpec.ofChange Rows.stepArgsSpec).preRow enc Tryz.prog Tryz.f4 Rows.stepArgsRow.domain false Rows.stepArgsRow.laid) (((OpenSpec.ofChange Rows.stepArgsSpec).at F).post enc Tryz.prog Tryz.f4 false true false false) := by
 obtain ⟨places, hx⟩ := reads os enc
 refine returnsInHanded_of_row (C := Tryz.checked) (s := OpenSpec.ofChange Rows.stepArgsSpec) own started (by kernel_rfl) Tryz.func4
  (witness_row_atRef (enc := enc) (C := Tryz.checked) false (world0 os) #[.slice none 0 0, .slice none 0 0] (World.laidAll_os _ _ _) (by kernel_rfl) (by kernel_rfl) (by kernel_rfl)
   (OpenSpec.preRow_of_cond 8 hx (by kernel_rfl) (fun k hk => by cases hk) (by kernel_rfl) (laid_met os))) ?_
 intro W base args ds gs before hval hW _ hcond _ hL hS _
 exact contract H enc W base args ds gs before hval hW hL hS
theorem said : Rows.StepArgsSaid :=
 OpenClaim.holds_of_cond 4 Tryz.f4 rfl rfl rfl rfl rfl rfl rfl ⟨rfl, rfl, rfl, rfl, rfl⟩ rfl rfl rfl rfl rfl (by kernel_rfl) Tryz.func4 (by kernel_rfl)
  (of_decide_eq_true (by kernel_rfl)) (by unfold Func.isWrapper; first | (rw [if_pos (by decide +kernel)]; kernel_rfl) | (rw [if_neg (by decide +kernel)]; exact ⟨rfl, rfl⟩))
  (fun os started H enc _ F => by rw [OpenClaim.pre_eq_preRow]; exact lifted os started H enc F)
theorem plain (f : FuncId) (fn : Func) (hf : Tryz.pinned.checked.prog.funcNamed "oakum/oakumlaw15.StepArgs" = some f) (hfn : Tryz.pinned.checked.prog.funcs[f]? = some fn) :
  true = Tryz.pinned.checked.prog.looks [] ∧ ∀ (j : Nat) t, fn.params[j]? = some t → Tryz.pinned.checked.prog.wantsStandIn t = false := by
 obtain rfl : f = 4 := Option.some.inj ((show Tryz.prog.funcNamed "oakum/oakumlaw15.StepArgs" = some 4 by kernel_rfl).symm.trans hf) |>.symm
 obtain rfl : fn = Tryz.f4 := (Option.some.inj (Tryz.func4.symm.trans hfn)).symm
 refine ⟨by kernel_rfl, fun j t ht => ?_⟩
 rw [Tryz.params4] at ht
 obtain rfl : t = 22 := by simpa using Array.mem_of_getElem? ht
 exact (show Tryz.prog.wantsStandIn 22 = false by kernel_rfl)
theorem proved : Rows.StepArgsCardSaid :=
 Claim7.holds_tied_plain_at .later [] _ _ _ _ said (fun _ h => by cases h) (by kernel_rfl) (fun _ h => by cases h) stepArgs_row_tie rfl ⟨rfl, rfl⟩ (by kernel_rfl) rfl plain (by kernel_rfl)
#print axioms proved
end Go.Proofs.YtedglegjghokfaaGreatDoor.stepArgs
