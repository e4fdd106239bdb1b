/- A part of the proof: its steps, joined out of smaller texts. -/
import Derived.Test.YtddhkfdfhbpblaaGreatDoorAh5
import Derived.Lib.QuietBelow
import Derived.Test.YtddhkfdfhbpblaaGreatDoorRows
import Derived.Stop.LaidErr
import Derived.Shelf.Vars
import Derived.LaidLaws
import Derived.ProofKit
import Derived.OpenShut
import Derived.ChangeSlices
import Derived.Carry
import Derived.Lay
set_option linter.unusedVariables false
set_option linter.unusedSimpArgs false
namespace Go.Proofs.YtddhkfdfhbpblaaGreatDoor.P
open Go.RowKit Go.Proofs.YtddhkfdfhbpblaaGreatDoorW.PrintWords Go.Proofs.YtddhkfdfhbpblaaGreatDoorW.PrintLast Go.Proofs.YtddhkfdfhbpblaaGreatDoorW.PrintMore
open Go.Proofs.YtddhkfdfhbpblaaGreatDoor
set_option linter.unusedVariables false
attribute [local go_sem] Oper.semAt_some min2_int min_two
def dBlk.T6 : Bool × List (List Nat × List Nat) := (true, [([], []), ([], []), ([1], [1]), ([2], [2]), ([3], [3]), ([4], [4]), ([0, 0], [0]), ([5, 6, 0, 1, 2, 3, 4, 5, 6], [5])])
def dBlk.B6 : List Nat := [0, 0, 2, 6, 14, 30, 1, 127]
theorem dBlk.tab6 : rtab .any (opsOf Tryz.f13 6) = dBlk.T6 := by kernel_rfl
theorem dBlk.bits6 : waitsOk dBlk.T6.2 dBlk.B6 = true := by kernel_rfl
def dBlk.T13 : Bool × List (List Nat × List Nat) := (true, [([], []), ([], []), ([1], [1]), ([2], [2]), ([3], [3]), ([], []), ([], []), ([6], [6]), ([7], [7]), ([8], [8]), ([9], [9]), ([5, 10], [5, 10]), ([4, 11], [4, 11]), ([0, 0, 1, 2, 3, 4, 5, 6, 7, 8, 9, 10, 11, 12], [0]), ([13, 0, 1, 2, 3, 4, 5, 6, 7, 8, 9, 10, 11, 12], [13]), ([14, 12, 12, 0, 1, 2, 3, 4, 5, 6, 7, 8, 9, 10, 11, 12], [12, 14])])
def dBlk.B13 : List Nat := [0, 0, 2, 6, 14, 0, 0, 64, 192, 448, 960, 2016, 4094, 8191, 16383, 32767]
theorem dBlk.tab13 : rtab .any (opsOf Tryz.f13 13) = dBlk.T13 := by kernel_rfl
theorem dBlk.bits13 : waitsOk dBlk.T13.2 dBlk.B13 = true := by kernel_rfl
def dBlk.T14 : Bool × List (List Nat × List Nat) := (true, [([], []), ([0], [0]), ([1], [1]), ([2], [2]), ([], []), ([4], [4]), ([5], [5]), ([6], [6]), ([7], [7]), ([3, 8], [3, 8]), ([0, 0, 1, 2, 3, 4, 5, 6, 7, 8, 9], [0]), ([10, 0, 1, 2, 3, 4, 5, 6, 7, 8, 9], [10]), ([11, 9, 0, 1, 2, 3, 4, 5, 6, 7, 8, 9], [9, 11])])
def dBlk.B14 : List Nat := [0, 1, 3, 7, 0, 16, 48, 112, 240, 511, 1023, 2047, 4095]
theorem dBlk.tab14 : rtab .any (opsOf Tryz.f13 14) = dBlk.T14 := by kernel_rfl
theorem dBlk.bits14 : waitsOk dBlk.T14.2 dBlk.B14 = true := by kernel_rfl
def firstX (d : Dc) : Int := firstB (atOf d.p.aN) (atOf d.p.aL) d.xt (decide (0 ≤ d.p.aN)) (decide (0 ≤ d.p.aL)) (decide (0 ≤ d.p.aX)) 3
def edC (d : Dc) : Dc × EvV × Int := if 0 ≤ firstX d then failC d 7 (firstX d) else ({ d with st := 4 }, .fin, 0)
def blkC (d : Dc) (l : List Int) : Dc × EvV × Int :=
 if d.st = 5 then (d, .none, d.fc) else if d.st = 4 then (d, .none, 0)
 else if d.st = 1 then
  if 512 < d.left then ({ d with blocks := d.blocks + 1, buf := d.buf ++ l, left := d.left - 512 }, .none, 0)
  else ((extC { d with blocks := d.blocks + 1, buf := d.buf ++ l.take d.left.toNat, left := 0 }).1, .none, (extC { d with blocks := d.blocks + 1, buf := d.buf ++ l.take d.left.toNat, left := 0 }).2)
 else if d.st = 2 then
  if 512 < d.left then ({ d with blocks := d.blocks + 1, left := d.left - 512 }, .data l, 0)
  else ({ d with blocks := d.blocks + 1, left := 0, st := 0 }, .data (l.take d.left.toNat), 0)
 else if d.st = 3 then
  if blankV l = false then failC { d with blocks := d.blocks + 1 } 4 (d.blocks - 1) else edC { d with blocks := d.blocks + 1 }
 else if blankV l = true then ({ d with blocks := d.blocks + 1, st := 3 }, .none, 0)
 else headC { d with blocks := d.blocks + 1 } l d.blocks
structure DI (d : Dc) : Prop where
 bl : 0 ≤ d.blocks ∧ d.blocks < 1000000
 one : d.st = 1 → 0 < d.left ∧ d.left ≤ 65536 ∧ byteL d.buf = true ∧ 0 ≤ d.from_
 two : d.st = 2 → 0 < d.left ∧ d.left ≤ 9223372036854775807
 pr : PR d.p
 gl : d.p.glo.length + d.buf.length + 512 < 1000000
section
variable {w0 w w1 w2 : World} {v0 : Value} {D : Nat} {d d' : Dc} {vl vg vb v1 : Value}
theorem DT.app (h : DT w0 v0 w D d vl vg vb) {bs : List Int} (hR : RB w1 v1 bs) (hg : w.grownBy w1 vb.ownBlock) (hat : v1.ownBlock = vb.ownBlock ∨ ∃ b, v1.ownBlock = some b ∧ w.heap.size ≤ b)
  (h1 : w2.heap[D]? = some (.cells (dcells d' vl vg v1) 73 (0, 0))) (h2 : ∀ k, k ≠ D → w2.heap[k]? = w1.heap[k]?) (h3 : w2.heap.size = w1.heap.size) (h4 : ∀ (H : Nat) (w' : World), H ≤ D → Below H w' w1 → Below H w' w2)
  (hl : d'.p.loc = d.p.loc) (hgl : d'.p.glo = d.p.glo) (hb : d'.buf = bs) : DT w0 v0 w2 D d' vl vg v1 := by
 have hDn : some D ≠ vb.ownBlock := DS_own_ne h.ds h.ds.blk (by decide)
 have hD1 : w1.heap[D]? = some (.cells (dcells d vl vg vb) 73 (0, 0)) := (hg.block D h.ds.lt hDn).trans h.ds.blk
 have hB := h4 0 w1 (Nat.zero_le _) (Below.refl 0 w1)
 refine ⟨⟨h1, ?_, ?_, ?_⟩, h.ch.trans ⟨hB.os.trans hg.os, hB.tape.trans hg.tape, hB.output.trans hg.output, by rw [h3]; exact hg.size, fun k hk hkD hkv => (h2 k hkD).trans (hg.block k hk hkv), ?_⟩⟩
 ·rw [hl]; exact R_past (Kd.R_over h.ds.hl h.ds.hb (by decide) hg) hD1 (by decide) h2
 ·rw [hgl]; exact R_past (Kd.R_over h.ds.hg h.ds.hb (by decide) hg) hD1 (by decide) h2
 ·rw [hb]; exact R_past hR hD1 (by decide) h2
 ·rcases hat with e | ⟨b, e, hb⟩
  ·exact .inl e
  ·exact .inr (.inr ⟨b, e, hb⟩)
theorem ev_form {w : World} {ev : EvV} {cs : Array Value} (h : EvR w ev cs) : cs.size = evA.size ∧ (Tryz.prog.info? 35).map (·.size) = some cs.size ∧ cs.all (·.oneCell') = true := by
 have hi : (Tryz.prog.info? 35).map (·.size) = some 16 := by kernel_rfl
 cases ev with
 | none => obtain rfl : cs = evA := h; exact ⟨rfl, hi, by kernel_rfl⟩
 | item x =>
  obtain ⟨v, rfl, hv⟩ := h
  exact ⟨rfl, hi, evI_one x v (R_one hv)⟩
 | data l =>
  obtain ⟨v, rfl, hv⟩ := h
  have h1 := R_one hv
  refine ⟨rfl, hi, ?_⟩
  simp [Value.oneCell'] at h1 ⊢
  exact h1
 | fin => obtain rfl : cs = evE := h; exact ⟨rfl, hi, by kernel_rfl⟩
theorem ev_past {w w2 : World} {ev : EvV} {cs cells : Array Value} {g : Nat} (h : EvR w ev cs) (hb : w.heap[g]? = some (.cells cells 35 (0, 0))) (h2 : ∀ k, k ≠ g → w2.heap[k]? = w.heap[k]?) : EvR w2 ev cs := by
 cases ev with
 | none => exact h
 | item x =>
  obtain ⟨v, e, hv⟩ := h
  exact ⟨v, e, R_past hv hb (by decide) h2⟩
 | data l =>
  obtain ⟨v, e, hv⟩ := h
  exact ⟨v, e, R_past hv hb (by decide) h2⟩
 | fin => exact h
theorem st_load_fld {P : Program} {ops : Array Oper} {oi : Oper} {a : Act} {w : World} {Q : Exit → Act → World → Prop} {K : Act → World → Prop} {N : Tmp} (ty : TypeId) (x : Operand) (B j : Nat) (v : Value) {cs : Array Value} {t : TypeId} {fr : Nat × Nat} (hb : w.heap[B]? = some (.cells cs t fr)) (hj : cs[j]? = some v) (d : TypeDesc) (hu : P.underlying ty = some d)
  (h : K (a.put (some N) v) w) (hw : Region.wanted oi (yielded ops a.tmps) = true := by rfl) (hN : oi.dst = some N := by exact rfl) (ho : oi.op = .load ty x := by exact rfl) (hx : a.eval x = .pointer (some ⟨B, j, none⟩) := by rfl)
  (hd : d.isRow = false := by rfl) : if Region.wanted oi (yielded ops a.tmps) = true then Oper.wp P oi a w K Q else K (a.put (some N) undef) w :=
 value_ hw hN (by
  unfold execOp
  simp only [ho, hx, Instr.loadAt, Instr.sureAddr, Sem.run_bind, Sem.run_pure, Result.andThen_ok, run_load_fld w B j t ty cs v fr hb hj d hu hd]) h
theorem C_chg {k : IntKind} {A : Option Addr} {n : Nat} {xs : List Int} {v v' : Value} (h : Kd.C (Kd.int k) w A n xs) (c : Chg w w1 D v v') (hs : ∀ ad, A = some ad → ad.block ≠ D ∧ some ad.block ≠ v.ownBlock) : Kd.C (Kd.int k) w1 A n xs :=
 ⟨h.1, h.2.1, fun hn => by
  obtain ⟨ad, e, hc⟩ := h.2.2 hn
  refine ⟨ad, e, fun j p hj => ?_⟩
  obtain ⟨cc, hs2, hr, hcell⟩ := hc j p hj
  refine ⟨cc, hs2, hr, fun i u hu => ?_⟩
  have h0 := hcell i u hu
  have hbk : (ad.add (j * (Kd.int k).sz + i)).block = ad.block := by unfold Addr.add; split <;> rfl
  have hlt := World.block_lt_of_cell? w _ h0
  have := hs ad e
  exact (World.cell?_of_block (c.block _ hlt (by rw [hbk]; exact this.1) (by rw [hbk]; exact this.2))).trans h0⟩
set_option maxRecDepth 100000 in
set_option maxHeartbeats 12800000 in
theorem block_calls (h : DT w0 v0 w D d vl vg vb) (hq : DG w D vb) (hs6 : 6 ≤ w.heap.size) (hi : DI d) (A0 : Option Addr) (c0 : Nat) (l0 : List Int) (hr0 : Kd.C (Kd.int .u8) w A0 l0.length l0) (hc0 : l0.length ≤ c0) (hl : l0.length = 512) (hb : byteL l0 = true) (hsep : ∀ ad, A0 = some ad → ad.block ≠ D ∧ some ad.block ≠ vb.ownBlock) :
  Calls Tryz.prog 13 #[.pointer (some ⟨D, 0, none⟩), .slice A0 l0.length c0] w fun e w' => HeadPost w0 v0 D (blkC d l0) e w' := by
 have hu := Tryz.underlying22
 have hHT := h.ds.start.below (below_alloc (Below.refl w.heap.size w) (.cells evA 35))
 have HT := Lib.hid hHT
 have HR := Lib.hid (heap_alloc_new w (.cells evA 35))
 have HS0 := Lib.hid (Nat.le_refl w.heap.size)
 have HD := Lib.hid (show w.heap.size ≠ D from Nat.ne_of_gt h.ds.lt)
 have HNO : Hid (∀ {W : World} {dd : Dc} {a b c : Value} {cs : Array Value}, DS W D dd a b c → W.heap[w.heap.size]? = some (.cells cs 35 (0, 0)) → some w.heap.size ≠ c.ownBlock) := Lib.hid (fun hds hh => DS_own_ne hds hh (by decide))
 have HQ := Lib.hid hq
 have HS6 := Lib.hid hs6
 have HI := Lib.hid hi
 have HH := Lib.hid h
 have HHC : Hid (∀ {W : World}, Chg w W D vb vb → True) := Lib.hid (fun _ => trivial)
 have HR0 := Lib.hid hr0
 have HC0 := Lib.hid hc0
 have HL0 := Lib.hid hl
 have HB0 := Lib.hid hb
 have HSEP := Lib.hid hsep
 have hbl0 := hi.bl.1
 have hbl1 := hi.bl.2
 obtain ⟨R, hR⟩ : ∃ R, blkC d l0 = R := ⟨_, rfl⟩
 rw [hR]
 have HRR := Lib.hid hR
 rw [hl]
 clear h hHT hq hs6 hi hr0 hc0 hl hb hsep hR
 cases h5 : (d.st == 5) with
 | true =>
  have E5 := Lib.hid (show d.st = 5 from eq_of_beq h5)
  obtain rfl : R = (d, .none, d.fc) := by rw [← HRR.out]; unfold blkC; rw [if_pos E5.out]
  clear E5
  have cst : (w.alloc (.cells evA 35)).cell? ⟨D, 0, none⟩ = some (.int .i64 d.st) := blk_cell HT.out.ds.blk 0
  go_enter Tryz.func13, Tryz.ntmps13
  go_wp2_with fail
  refine start_ (n := 8) (S := fun w' => w'.cell? ⟨D, 2, none⟩ = some (.int .u8 d.fc)) (ds := []) #[false, false, false, false, false, false, false, false] (by kernel_rfl) rfl rfl (blk_cell (HT.out.below ((Below.refl _ _).drew)).ds.blk 2) (fun hHeld => ?_); refine with_tabW dBlk.tab6 dBlk.bits6 (fun HT_ HW_ => ?_)
  replace HR := Lib.hid (blk_drew HR.out)
  replace HT := Lib.hid (HT.out.below ((Below.refl _ _).drew))
  generalize World.drew _ = w3 at HR HT hHeld ⊢
  refine Zp 0 23 (Zb 8 1) HT_ ?_
  refine Zp 1 24 (Zb 8 3) HT_ ?_
  refine Zp 2 25 (Zb 8 7) HT_ ?_
  refine Zp 3 26 (Zb 8 15) HT_ ?_
  refine Zp 4 27 (Zb 8 31) HT_ ?_
  refine Zt 5 28 (Zb 8 63) HT_ HW_ hHeld ?_
  refine one_ (i := 6) (N := none) (Zb 8 127) rfl rfl (one_of HT_.out (by kernel_rfl)) (by decide) (fun K hK => ?_)
  refine st_store_blk 35 (.tmp 4) (.tmp 23) w.heap.size evA HR.out ?_
  intro w9 h1 h2 h3 h4
  replace HT := Lib.hid (HT.out.other HR.out rfl HS0.out h2 h3 h4)
  replace HR := Lib.hid h1
  clear h1 h2 h3 h4
  refine hK.out _ _ (blk_cell HT.out.ds.blk 2) (fun hHeld => ?_)
  clear hK K
  refine Zp 7 5 (Zb 8 255) HT_ ?_
  refine Zq HT_ ?_
  clear HT_ HW_
  go_wp2_with fail
  refine bodyPost_ret (results_blk rfl _ _ w.heap.size 35 evA (0, 0) _ (.int .u8 d.fc) rfl HR.out rfl Tryz.underlying35 rfl (by kernel_rfl)) rfl ⟨_, _, _, _, rfl, rfl, HH.out.trans HT.out⟩
 | false =>
  have N5 := Lib.hid (show ¬ d.st = 5 from beq_eq_false_iff_ne.1 h5)
  cases h4 : (d.st == 4) with
  | true =>
   have E4 := Lib.hid (show d.st = 4 from eq_of_beq h4)
   obtain rfl : R = (d, .none, 0) := by rw [← HRR.out]; unfold blkC; rw [if_neg N5.out, if_pos E4.out]
   clear E4
   have cst : (w.alloc (.cells evA 35)).cell? ⟨D, 0, none⟩ = some (.int .i64 d.st) := blk_cell HT.out.ds.blk 0
   go_enter Tryz.func13, Tryz.ntmps13
   go_wp2_with first
    | ((with_reducible refine wpList_store_blk rfl 35 (.tmp 4) (.tmp 35) rfl w.heap.size evA rfl rfl HR.out rfl (by kernel_rfl) (by kernel_rfl) ?_); intro w9 h1 h2 h3 h4; replace HT := Lib.hid (HT.out.other HR.out rfl HS0.out h2 h3 h4); replace HR := Lib.hid h1; clear h1 h2 h3 h4)
   refine bodyPost_ret (results_blk rfl _ _ w.heap.size 35 evA (0, 0) _ (.int .u8 0) rfl HR.out rfl Tryz.underlying35 rfl (by kernel_rfl)) rfl ⟨_, _, _, _, rfl, rfl, HH.out.trans HT.out⟩
  | false =>
   have N4 := Lib.hid (show ¬ d.st = 4 from beq_eq_false_iff_ne.1 h4)
   have c1 : (w.alloc (.cells evA 35)).cell? ⟨D, 1, none⟩ = some (.int .i64 d.blocks) := blk_cell HT.out.ds.blk 1
   cases h1 : (d.st == 1) with
   | true =>
    have E1 := Lib.hid (show d.st = 1 from eq_of_beq h1)
    have HO1 := Lib.hid (HI.out.one E1.out)
    obtain ⟨A3, k3, hvb, n3, _⟩ := Kd.R_reads HT.out.ds.hb
    subst hvb
    by_cases hm : 512 < d.left
    ·obtain rfl : R = ({ d with blocks := d.blocks + 1, buf := d.buf ++ l0, left := d.left - 512 }, .none, 0) := by rw [← HRR.out]; unfold blkC; rw [if_neg N5.out, if_neg N4.out, if_pos E1.out, if_pos hm]
     have hm1 : ((512 : Int) < d.left) = True := eq_true hm
     have hle : d.left ≤ 65536 := HO1.out.2.1
     have hpos : (0 : Int) < d.left - 512 := by omega
     have HWR := Lib.hid (show wrap64 (d.left-512) = d.left-512 from w64 _ (by omega) (by omega))
     have hcq : ((512 : Int) ≤ (c0 : Int)) = True := eq_true (by have := HC0.out; have := HL0.out; omega)
     have HSRC : Hid (∀ W v', Chg w W D (.slice A3 d.buf.length k3) v' → Kd.C kB W A0 512 l0) := Lib.hid (fun W v' hc => by have := C_chg HR0.out hc HSEP.out; rw [HL0.out] at this; exact this)
     have HLEN := Lib.hid (show (d.buf.length + 512) * 1 ≤ 140737488355328 by have := HI.out.gl; omega)
     have cst : (w.alloc (.cells evA 35)).cell? ⟨D, 0, none⟩ = some (.int .i64 d.st) := blk_cell HT.out.ds.blk 0
     go_enter Tryz.func13, Tryz.ntmps13
     go_wp2_with first
      | ((with_reducible refine wpList_store_fld rfl 2 (.tmp 46) (.tmp 44) rfl D 1 (.int .i64 (d.blocks + 1)) rfl rfl HT.out.ds.blk (by kernel_rfl) (by kernel_rfl) rfl ?_); intro w3 h1 h2 h3 h4; replace HR := Lib.hid ((h2 _ HD.out).trans HR.out); replace HT := Lib.hid (HT.out.same (d' := { d with blocks := d.blocks + 1 }) (by rw [dset_blocks] at h1; exact h1) h2 h3 h4); clear h1 h2 h3 h4; have c3 : w3.cell? ⟨D, 0, none⟩ = some (.int .i64 d.st) := blk_cell HT.out.ds.blk 0; have c17 : w3.cell? ⟨D, 17, none⟩ = some (.int .i64 d.left) := blk_cell HT.out.ds.blk 17)
     refine start_ (n := 16) (S := fun w' => w'.cell? ⟨D, 17, none⟩ = some (.int .i64 d.left)) (ds := []) #[false, false, false, false, false, false, false, false, false, false, false, false, false, false, false, false] (by kernel_rfl) rfl rfl (blk_cell (HT.out.below ((Below.refl _ w3).drew)).ds.blk 17) (fun hHeld => ?_); refine with_tabW dBlk.tab13 dBlk.bits13 (fun HT_ HW_ => ?_)
     replace HR := Lib.hid (blk_drew HR.out)
     replace HT := Lib.hid (HT.out.below ((Below.refl _ w3).drew))
     generalize w3.drew = w4 at HR HT hHeld ⊢
     refine Zp 0 53 (Zb 16 1) HT_ ?_
     refine Zp 1 54 (Zb 16 3) HT_ ?_
     refine Zp 2 55 (Zb 16 7) HT_ ?_
     refine Zp 3 56 (Zb 16 15) HT_ ?_
     refine Zp 5 58 (Zb 16 47) HT_ ?_
     refine Zp 6 59 (Zb 16 111) HT_ ?_
     refine Zp 7 60 (Zb 16 239) HT_ ?_
     refine Zp 8 61 (Zb 16 495) HT_ ?_
     refine Zt 9 62 (Zb 16 1007) HT_ HW_ hHeld ?_
     refine Zp 10 63 (Zb 16 2031) HT_ ?_
     refine Zp 11 64 (Zb 16 4079) HT_ ?_
     refine Zo 4 57 (Zb 16 4095) HT_ fun K hK => ?_
     refine st_load_fld 22 (.tmp 56) D 16 (.slice A3 d.buf.length k3) HT.out.ds.blk rfl _ hu ?_
     refine hK.out _ _ (blk_cell HT.out.ds.blk 17) (fun hHeld => ?_)
     clear hK K
     refine Zn ?_
     refine Zo 12 65 (Zb 16 8191) HT_ fun K hK => ?_
     refine Kd.R_append_rows_step kB (Rr := kB.K w4) (w0 := w4) 0 rfl (.tmp 57) (.tmp 64) 22 5 (.int .u8 0) 1 rfl hu (by kernel_rfl) rfl (by decide) (by omega) (.slice A3 d.buf.length k3) d.buf l0 _ _ _ (fun _ => True) (fun _ => False) rfl rfl ?aO ?aR (fun q cs hq => hq) (fun _ h => h.elim) ?aF ?aB ?aS ?aL ?_
     case aR => exact HSRC.out w4 _ HT.out.ch
     case aB => exact Below.refl _ _
     case aF => exact (fun _ _ => trivial)
     case aO => exact HT.out.ds.hb
     case aS => exact Nat.zero_le _
     case aL => exact HLEN.out
     intro v5 w5 ho hb5 hg5 hat5
     have HRN := Lib.hid ((hg5.block _ (blk_lt HR.out) (HNO.out HT.out.ds HR.out)).trans HR.out)
     have HDB := Lib.hid ((hg5.block _ HT.out.ds.lt (DS_own_ne HT.out.ds HT.out.ds.blk (by decide))).trans HT.out.ds.blk)
     have HAPP := Lib.hid (And.intro ho (And.intro hg5 hat5))
     clear ho hb5 hg5 hat5
     refine hK.out _ _ (blk_cell HDB.out 17) (fun hHeld => ?_)
     clear hK K
     refine Zn ?_
     refine Zp 13 66 (Zb 16 16383) HT_ ?_
     refine Zp 14 67 (Zb 16 32767) HT_ ?_
     refine one_ (i := 15) (N := none) (Zb 16 65535) rfl rfl (one_of HT_.out (by kernel_rfl)) (by decide) (fun K hK => ?_)
     refine st_store_fld 22 (.tmp 67) (.tmp 65) D 16 v5 HDB.out ?_ (h1 := R_one HAPP.out.1)
     intro w6 h1 h2 h3 h4
     replace HT := Lib.hid (HT.out.app (d' := { d with blocks := d.blocks + 1, buf := d.buf ++ l0 }) HAPP.out.1 HAPP.out.2.1 HAPP.out.2.2 (by rw [dset_buf _ _ _ _ _ (d.buf ++ l0)] at h1; exact h1) h2 h3 h4 rfl rfl rfl)
     replace HR := Lib.hid ((h2 _ HD.out).trans HRN.out)
     clear h1 h2 h3 h4 HRN HDB HAPP
     refine hK.out _ _ (blk_cell HT.out.ds.blk 17) (fun hHeld => ?_)
     clear hK K
     refine Zq HT_ ?_
     clear HT_ HW_
     go_wp2_with fail
     refine start_ (n := 13) (S := fun w' => True) (ds := []) #[false, false, false, false, false, false, false, false, false, false, false, false, false] (by kernel_rfl) rfl rfl trivial (fun hHeld => ?_); refine with_tabW dBlk.tab14 dBlk.bits14 (fun HT_ HW_ => ?_)
     replace HR := Lib.hid (blk_drew HR.out)
     replace HT := Lib.hid (HT.out.below ((Below.refl _ w6).drew))
     generalize w6.drew = w7 at HR HT hHeld ⊢
     refine Zp 0 68 (Zb 13 1) HT_ ?_
     refine Zp 1 69 (Zb 13 3) HT_ ?_
     refine Zp 2 70 (Zb 13 7) HT_ ?_
     refine Zp 4 72 (Zb 13 23) HT_ ?_
     refine Zp 5 73 (Zb 13 55) HT_ ?_
     refine Zp 6 74 (Zb 13 119) HT_ ?_
     refine join_ (σ := Unit) 1 (Zb 13 4095) (fun _ => [(71, .int .i64 d.left), (75, .int .i64 d.left), (76, .int .i64 512), (77, .int .i64 (wrap64 (d.left-512))), (78, .pointer (some ⟨D, 0, none⟩)), (79, .pointer (some ⟨D, 17, none⟩))]) (fun _ w' => w' = w7) ?_ ?_
     rotate_left
     ·intro hCont
      refine two_ (i := 3) (j := 7) (Ni := some 71) (Nj := some 75) #[true, true, true, true, true, true, true, false, false, false, false, false, false] #[true, true, true, false, true, true, true, true, false, false, false, false, false] rfl rfl rfl rfl (two_of HT_.out (by kernel_rfl)) (by decide) (by decide) (fun K hK => ?_) (fun K hK => ?_)
      ·skip
       refine st_load_fld 2 (.tmp 70) D 17 (.int .i64 d.left) HT.out.ds.blk rfl _ Tryz.underlying2 ?_
       refine hK.out _ _ trivial (fun hHeld => ?_)
       clear hK K
       refine Zn ?_
       refine Zo 7 75 (Zb 13 255) HT_ fun K hK => ?_
       refine st_load_fld 2 (.tmp 74) D 17 (.int .i64 d.left) HT.out.ds.blk rfl _ Tryz.underlying2 ?_
       refine hK.out _ _ trivial (fun hHeld => ?_)
       clear hK K
       refine Zn ?_
       refine Zp 8 76 (Zb 13 511) HT_ ?_
       refine Zp 9 77 (Zb 13 1023) HT_ ?_
       refine Zp 10 78 (Zb 13 2047) HT_ ?_
       refine Zp 11 79 (Zb 13 4095) HT_ ?_
       exact norm_ (by first | (simp only [putAll, Act.put, List.setIfInBounds_toArray, List.set_cons_zero, List.set_cons_succ]; done) | (simp only [putAll, Act.put, List.setIfInBounds_toArray, List.set_cons_zero, List.set_cons_succ]; rfl)) (hCont () _ rfl)
      ·skip
       refine st_load_fld 2 (.tmp 74) D 17 (.int .i64 d.left) HT.out.ds.blk rfl _ Tryz.underlying2 ?_
       refine hK.out _ _ trivial (fun hHeld => ?_)
       clear hK K
       refine Zn ?_
       refine Zp 8 76 (Zb 13 503) HT_ ?_
       refine Zo 3 71 (Zb 13 511) HT_ fun K hK => ?_
       refine st_load_fld 2 (.tmp 70) D 17 (.int .i64 d.left) HT.out.ds.blk rfl _ Tryz.underlying2 ?_
       refine hK.out _ _ trivial (fun hHeld => ?_)
       clear hK K
       refine Zn ?_
       refine Zp 9 77 (Zb 13 1023) HT_ ?_
       refine Zp 10 78 (Zb 13 2047) HT_ ?_
       refine Zp 11 79 (Zb 13 4095) HT_ ?_
       exact norm_ (by first | (simp only [putAll, Act.put, List.setIfInBounds_toArray, List.set_cons_zero, List.set_cons_succ]; done) | (simp only [putAll, Act.put, List.setIfInBounds_toArray, List.set_cons_zero, List.set_cons_succ]; rfl)) (hCont () _ rfl)
     rintro _ w8 rfl
     refine norm_ (a' := ?_) ?_ ?_
     rotate_left
     ·simp only [putAll, Act.put, List.setIfInBounds_toArray, List.set_cons_zero, List.set_cons_succ]
      rfl
     refine one_ (i := 12) (N := none) (Zb 13 8191) rfl rfl (one_of HT_.out (by kernel_rfl)) (by decide) (fun K hK => ?_)
     refine st_store_fld 2 (.tmp 79) (.tmp 77) D 17 (.int .i64 (wrap64 (d.left-512))) HT.out.ds.blk ?_
     intro w12 h1 h2 h3 h4
     replace HR := Lib.hid ((h2 _ HD.out).trans HR.out)
     replace HT := Lib.hid (HT.out.same (d' := { d with blocks := d.blocks + 1, buf := d.buf ++ l0, left := (d.left-512) }) (by rw [dset_left, HWR.out] at h1; exact h1) h2 h3 h4)
     clear h1 h2 h3 h4
     refine hK.out _ _ trivial (fun hHeld => ?_)
     clear hK K
     refine Zq HT_ ?_
     clear HT_ HW_
     have c17 : w12.cell? ⟨D, 17, none⟩ = some (.int .i64 (d.left-512)) := blk_cell HT.out.ds.blk 17
     have hdp : decide (0 < d.left-512) = true := decide_eq_true hpos
     go_wp2_with first
      | ((with_reducible refine wpList_store_blk rfl 35 (.tmp 4) (.tmp 85) rfl w.heap.size evA rfl rfl HR.out rfl (by kernel_rfl) (by kernel_rfl) ?_); intro w9 h1 h2 h3 h4; replace HT := Lib.hid (HT.out.other HR.out rfl HS0.out h2 h3 h4); replace HR := Lib.hid h1; clear h1 h2 h3 h4)
     refine bodyPost_ret (results_blk rfl _ _ w.heap.size 35 evA (0, 0) _ (.int .u8 0) rfl HR.out rfl Tryz.underlying35 rfl (by kernel_rfl)) rfl ⟨_, _, _, _, rfl, rfl, HH.out.trans HT.out⟩
    ·have hps := HO1.out.1
     have hle5 : d.left ≤ 512 := by omega
     have hm1 : ((512 : Int) < d.left) = False := eq_false hm
     obtain ⟨src, hsrc⟩ : ∃ src, l0.take d.left.toNat = src := ⟨_, rfl⟩
     have HRB : Hid (R = ((extC { d with blocks := d.blocks + 1, buf := d.buf ++ src, left := 0 }).1, .none, (extC { d with blocks := d.blocks + 1, buf := d.buf ++ src, left := 0 }).2)) := Lib.hid (by rw [← HRR.out]; unfold blkC; rw [if_neg N5.out, if_neg N4.out, if_pos E1.out, if_neg hm, hsrc])
     have hsl : src.length = d.left.toNat := by rw [← hsrc, List.length_take, HL0.out]; omega
     have hq0 : ((0 : Int) ≤ d.left) = True := eq_true (by omega)
     have hq1 : (d.left ≤ (c0 : Int)) = True := eq_true (by have := HC0.out; have := HL0.out; omega)
     have HSRC : Hid (∀ W v', Chg w W D (.slice A3 d.buf.length k3) v' → Kd.C kB W A0 d.left.toNat src) := Lib.hid (fun W v' hc => by have := Kd.C_take (m := d.left.toNat) (C_chg HR0.out hc HSEP.out) (by rw [HL0.out]; omega); rw [hsrc, hsl] at this; exact this)
     have HLEN := Lib.hid (show (d.buf.length + d.left.toNat) * 1 ≤ 140737488355328 by have := HI.out.gl; omega)
     have HBY := Lib.hid (show byteL (d.buf ++ src) = true by rw [byteL_iff]; intro c hc; rcases List.mem_append.1 hc with h | h; exact byteL_iff.1 HO1.out.2.2.1 c h; rw [← hsrc] at h; exact byteL_iff.1 HB0.out c (List.mem_of_mem_take h))
     have HSL := Lib.hid (show src.length ≤ 512 by omega)
     have HWR := Lib.hid (show wrap64 0 = 0 from w64 0 (by decide) (by decide))
     clear hsrc hsl
     have cst : (w.alloc (.cells evA 35)).cell? ⟨D, 0, none⟩ = some (.int .i64 d.st) := blk_cell HT.out.ds.blk 0
     go_enter Tryz.func13, Tryz.ntmps13
     go_wp2_with first
      | ((with_reducible refine wpList_store_fld rfl 2 (.tmp 46) (.tmp 44) rfl D 1 (.int .i64 (d.blocks + 1)) rfl rfl HT.out.ds.blk (by kernel_rfl) (by kernel_rfl) rfl ?_); intro w3 h1 h2 h3 h4; replace HR := Lib.hid ((h2 _ HD.out).trans HR.out); replace HT := Lib.hid (HT.out.same (d' := { d with blocks := d.blocks + 1 }) (by rw [dset_blocks] at h1; exact h1) h2 h3 h4); clear h1 h2 h3 h4; have c3 : w3.cell? ⟨D, 0, none⟩ = some (.int .i64 d.st) := blk_cell HT.out.ds.blk 0; have c17 : w3.cell? ⟨D, 17, none⟩ = some (.int .i64 d.left) := blk_cell HT.out.ds.blk 17)
     refine start_ (n := 16) (S := fun w' => w'.cell? ⟨D, 17, none⟩ = some (.int .i64 d.left)) (ds := []) #[false, false, false, false, false, false, false, false, false, false, false, false, false, false, false, false] (by kernel_rfl) rfl rfl (blk_cell (HT.out.below ((Below.refl _ w3).drew)).ds.blk 17) (fun hHeld => ?_); refine with_tabW dBlk.tab13 dBlk.bits13 (fun HT_ HW_ => ?_)
     replace HR := Lib.hid (blk_drew HR.out)
     replace HT := Lib.hid (HT.out.below ((Below.refl _ w3).drew))
     generalize w3.drew = w4 at HR HT hHeld ⊢
     refine Zp 0 53 (Zb 16 1) HT_ ?_
     refine Zp 1 54 (Zb 16 3) HT_ ?_
     refine Zp 2 55 (Zb 16 7) HT_ ?_
     refine Zp 3 56 (Zb 16 15) HT_ ?_
     refine Zp 5 58 (Zb 16 47) HT_ ?_
     refine Zp 6 59 (Zb 16 111) HT_ ?_
     refine Zp 7 60 (Zb 16 239) HT_ ?_
     refine Zp 8 61 (Zb 16 495) HT_ ?_
     refine Zt 9 62 (Zb 16 1007) HT_ HW_ hHeld ?_
     refine Zp 10 63 (Zb 16 2031) HT_ ?_
     refine Zp 11 64 (Zb 16 4079) HT_ ?_
     refine Zo 4 57 (Zb 16 4095) HT_ fun K hK => ?_
     refine st_load_fld 22 (.tmp 56) D 16 (.slice A3 d.buf.length k3) HT.out.ds.blk rfl _ hu ?_
     refine hK.out _ _ (blk_cell HT.out.ds.blk 17) (fun hHeld => ?_)
     clear hK K
     refine Zn ?_
     refine Zo 12 65 (Zb 16 8191) HT_ fun K hK => ?_
     refine Kd.R_append_rows_step kB (Rr := kB.K w4) (w0 := w4) 0 rfl (.tmp 57) (.tmp 64) 22 5 (.int .u8 0) 1 rfl hu (by kernel_rfl) rfl (by decide) (by omega) (.slice A3 d.buf.length k3) d.buf src _ _ _ (fun _ => True) (fun _ => False) rfl rfl ?aO ?aR (fun q cs hq => hq) (fun _ h => h.elim) ?aF ?aB ?aS ?aL ?_
     case aR => exact HSRC.out w4 _ HT.out.ch
     case aB => exact Below.refl _ _
     case aF => exact (fun _ _ => trivial)
     case aO => exact HT.out.ds.hb
     case aS => exact Nat.zero_le _
     case aL => exact HLEN.out
     intro v5 w5 ho hb5 hg5 hat5
     have HRN := Lib.hid ((hg5.block _ (blk_lt HR.out) (HNO.out HT.out.ds HR.out)).trans HR.out)
     have HDB := Lib.hid ((hg5.block _ HT.out.ds.lt (DS_own_ne HT.out.ds HT.out.ds.blk (by decide))).trans HT.out.ds.blk)
     have HAPP := Lib.hid (And.intro ho (And.intro hg5 hat5))
     clear ho hb5 hg5 hat5
     refine hK.out _ _ (blk_cell HDB.out 17) (fun hHeld => ?_)
     clear hK K
     refine Zn ?_
     refine Zp 13 66 (Zb 16 16383) HT_ ?_
     refine Zp 14 67 (Zb 16 32767) HT_ ?_
     refine one_ (i := 15) (N := none) (Zb 16 65535) rfl rfl (one_of HT_.out (by kernel_rfl)) (by decide) (fun K hK => ?_)
     refine st_store_fld 22 (.tmp 67) (.tmp 65) D 16 v5 HDB.out ?_ (h1 := R_one HAPP.out.1)
     intro w6 h1 h2 h3 h4
     replace HT := Lib.hid (HT.out.app (d' := { d with blocks := d.blocks + 1, buf := d.buf ++ src }) HAPP.out.1 HAPP.out.2.1 HAPP.out.2.2 (by rw [dset_buf _ _ _ _ _ (d.buf ++ src)] at h1; exact h1) h2 h3 h4 rfl rfl rfl)
     replace HR := Lib.hid ((h2 _ HD.out).trans HRN.out)
     clear h1 h2 h3 h4 HRN HDB HAPP
     refine hK.out _ _ (blk_cell HT.out.ds.blk 17) (fun hHeld => ?_)
     clear hK K
     refine Zq HT_ ?_
     clear HT_ HW_
     go_wp2_with fail
     refine start_ (n := 13) (S := fun w' => True) (ds := []) #[false, false, false, false, false, false, false, false, false, false, false, false, false] (by kernel_rfl) rfl rfl trivial (fun hHeld => ?_); refine with_tabW dBlk.tab14 dBlk.bits14 (fun HT_ HW_ => ?_)
     replace HR := Lib.hid (blk_drew HR.out)
     replace HT := Lib.hid (HT.out.below ((Below.refl _ w6).drew))
     generalize w6.drew = w7 at HR HT hHeld ⊢
     refine Zp 0 68 (Zb 13 1) HT_ ?_
     refine Zp 1 69 (Zb 13 3) HT_ ?_
     refine Zp 2 70 (Zb 13 7) HT_ ?_
     refine Zp 4 72 (Zb 13 23) HT_ ?_
     refine Zp 5 73 (Zb 13 55) HT_ ?_
     refine Zp 6 74 (Zb 13 119) HT_ ?_
     refine join_ (σ := Unit) 1 (Zb 13 4095) (fun _ => [(71, .int .i64 d.left), (75, .int .i64 d.left), (76, .int .i64 d.left), (77, .int .i64 (wrap64 0)), (78, .pointer (some ⟨D, 0, none⟩)), (79, .pointer (some ⟨D, 17, none⟩))]) (fun _ w' => w' = w7) ?_ ?_
     rotate_left
     ·intro hCont
      refine two_ (i := 3) (j := 7) (Ni := some 71) (Nj := some 75) #[true, true, true, true, true, true, true, false, false, false, false, false, false] #[true, true, true, false, true, true, true, true, false, false, false, false, false] rfl rfl rfl rfl (two_of HT_.out (by kernel_rfl)) (by decide) (by decide) (fun K hK => ?_) (fun K hK => ?_)
      ·skip
       refine st_load_fld 2 (.tmp 70) D 17 (.int .i64 d.left) HT.out.ds.blk rfl _ Tryz.underlying2 ?_
       refine hK.out _ _ trivial (fun hHeld => ?_)
       clear hK K
       refine Zn ?_
       refine Zo 7 75 (Zb 13 255) HT_ fun K hK => ?_
       refine st_load_fld 2 (.tmp 74) D 17 (.int .i64 d.left) HT.out.ds.blk rfl _ Tryz.underlying2 ?_
       refine hK.out _ _ trivial (fun hHeld => ?_)
       clear hK K
       refine Zn ?_
       refine Zp 8 76 (Zb 13 511) HT_ ?_
       refine Zp 9 77 (Zb 13 1023) HT_ ?_
       refine Zp 10 78 (Zb 13 2047) HT_ ?_
       refine Zp 11 79 (Zb 13 4095) HT_ ?_
       exact norm_ (by first | (simp only [putAll, Act.put, List.setIfInBounds_toArray, List.set_cons_zero, List.set_cons_succ]; done) | (simp only [putAll, Act.put, List.setIfInBounds_toArray, List.set_cons_zero, List.set_cons_succ]; rfl)) (hCont () _ rfl)
      ·skip
       refine st_load_fld 2 (.tmp 74) D 17 (.int .i64 d.left) HT.out.ds.blk rfl _ Tryz.underlying2 ?_
       refine hK.out _ _ trivial (fun hHeld => ?_)
       clear hK K
       refine Zn ?_
       refine Zp 8 76 (Zb 13 503) HT_ ?_
       refine Zo 3 71 (Zb 13 511) HT_ fun K hK => ?_
       refine st_load_fld 2 (.tmp 70) D 17 (.int .i64 d.left) HT.out.ds.blk rfl _ Tryz.underlying2 ?_
       refine hK.out _ _ trivial (fun hHeld => ?_)
       clear hK K
       refine Zn ?_
       refine Zp 9 77 (Zb 13 1023) HT_ ?_
       refine Zp 10 78 (Zb 13 2047) HT_ ?_
       refine Zp 11 79 (Zb 13 4095) HT_ ?_
       exact norm_ (by first | (simp only [putAll, Act.put, List.setIfInBounds_toArray, List.set_cons_zero, List.set_cons_succ]; done) | (simp only [putAll, Act.put, List.setIfInBounds_toArray, List.set_cons_zero, List.set_cons_succ]; rfl)) (hCont () _ rfl)
     rintro _ w8 rfl
     refine norm_ (a' := ?_) ?_ ?_
     rotate_left
     ·simp only [putAll, Act.put, List.setIfInBounds_toArray, List.set_cons_zero, List.set_cons_succ]
      rfl
     refine one_ (i := 12) (N := none) (Zb 13 8191) rfl rfl (one_of HT_.out (by kernel_rfl)) (by decide) (fun K hK => ?_)
     refine st_store_fld 2 (.tmp 79) (.tmp 77) D 17 (.int .i64 (wrap64 0)) HT.out.ds.blk ?_
     intro w12 h1 h2 h3 h4
     replace HR := Lib.hid ((h2 _ HD.out).trans HR.out)
     replace HT := Lib.hid (HT.out.same (d' := { d with blocks := d.blocks + 1, buf := d.buf ++ src, left := 0 }) (by rw [dset_left, HWR.out] at h1; exact h1) h2 h3 h4)
     clear h1 h2 h3 h4
     refine hK.out _ _ trivial (fun hHeld => ?_)
     clear hK K
     refine Zq HT_ ?_
     clear HT_ HW_
     have c17 : w12.cell? ⟨D, 17, none⟩ = some (.int .i64 0) := blk_cell HT.out.ds.blk 17
     go_wp2_with fail
     refine (extend_calls HT.out.ds.start (DG.chg HQ.out HS6.out HT.out.ch) (Nat.le_trans HS6.out HT.out.ch.size) HBY.out (by have := HI.out.gl; have := HSL.out; show d.p.glo.length + (d.buf ++ src).length < _; rw [List.length_append]; omega) HO1.out.2.2.2).mono ?_
     rintro e w13 ⟨vl2, vg2, vb2, rfl, hT⟩
     replace HR := Lib.hid ((hT.ch.block _ (blk_lt HR.out) HD.out (HNO.out HT.out.ds HR.out)).trans HR.out)
     replace HT := Lib.hid (HT.out.trans hT)
     clear hT
     obtain ⟨X1, hX1⟩ : ∃ X1, extC { d with blocks := d.blocks + 1, buf := d.buf ++ src, left := 0 } = X1 := ⟨_, rfl⟩
     rw [hX1] at HT HRB ⊢
     clear hX1
     obtain rfl := HRB.out
     go_wp2_with first
      | ((with_reducible refine wpList_store_blk rfl 35 (.tmp 4) (.tmp 88) rfl w.heap.size evA rfl rfl HR.out rfl (by kernel_rfl) (by kernel_rfl) ?_); intro w9 h1 h2 h3 h4; replace HT := Lib.hid (HT.out.other HR.out rfl HS0.out h2 h3 h4); replace HR := Lib.hid h1; clear h1 h2 h3 h4)
     refine bodyPost_ret (results_blk rfl _ _ w.heap.size 35 evA (0, 0) _ (.int .u8 X1.2) rfl HR.out rfl Tryz.underlying35 rfl (by kernel_rfl)) rfl ⟨_, _, _, _, rfl, rfl, HH.out.trans HT.out⟩
   | false =>
    have N1 := Lib.hid (show ¬ d.st = 1 from beq_eq_false_iff_ne.1 h1)
    cases h2 : (d.st == 2) with
    | true =>
     have E2 := Lib.hid (show d.st = 2 from eq_of_beq h2)
     have HO2 := Lib.hid (HI.out.two E2.out)
     by_cases hm : 512 < d.left
     ·obtain rfl : R = ({ d with blocks := d.blocks + 1, left := d.left - 512 }, .data l0, 0) := by rw [← HRR.out]; unfold blkC; rw [if_neg N5.out, if_neg N4.out, if_neg N1.out, if_pos E2.out, if_pos hm]
      have hm1 : ((512 : Int) < d.left) = True := eq_true hm
      have hle : d.left ≤ 9223372036854775807 := HO2.out.2
      have hcq : ((512 : Int) ≤ (c0 : Int)) = True := eq_true (by have := HC0.out; have := HL0.out; omega)
      have HCL : Hid (∀ W v', Chg w W D vb v' → Calls Tryz.prog 32 #[.slice A0 512 c0] W fun e w' => ∃ v0_ : Value, e = .returned (v0_) ∧ Kd.R (Kd.int .u8) 5 w' W.heap.size (fun _ => True) v0_ l0 ∧ Below W.heap.size W w') := Lib.hid (fun W v' hc => by have := clone_bytes A0 c0 l0 W (C_chg HR0.out hc HSEP.out) (by rw [HL0.out]; decide); rw [HL0.out] at this; exact this)
      have hnz : (d.left - 512 == 0) = false := by simp; omega
      have cst : (w.alloc (.cells evA 35)).cell? ⟨D, 0, none⟩ = some (.int .i64 d.st) := blk_cell HT.out.ds.blk 0
      go_enter Tryz.func13, Tryz.ntmps13
      go_wp2_with first
       | ((with_reducible refine wpList_store_fld rfl 2 (.tmp 46) (.tmp 44) rfl D 1 (.int .i64 (d.blocks + 1)) rfl rfl HT.out.ds.blk (by kernel_rfl) (by kernel_rfl) rfl ?_); intro w3 h1 h2 h3 h4; replace HR := Lib.hid ((h2 _ HD.out).trans HR.out); replace HT := Lib.hid (HT.out.same (d' := { d with blocks := d.blocks + 1 }) (by rw [dset_blocks] at h1; exact h1) h2 h3 h4); clear h1 h2 h3 h4; have c3 : w3.cell? ⟨D, 0, none⟩ = some (.int .i64 d.st) := blk_cell HT.out.ds.blk 0; have c17 : w3.cell? ⟨D, 17, none⟩ = some (.int .i64 d.left) := blk_cell HT.out.ds.blk 17)
       | ((with_reducible refine wpList_store_fld rfl 2 (.tmp 104) (.tmp 102) rfl D 17 (.int .i64 (d.left-512)) rfl rfl HT.out.ds.blk (by kernel_rfl) (by kernel_rfl) rfl ?_); intro w4 h1 h2 h3 h4; replace HR := Lib.hid ((h2 _ HD.out).trans HR.out); replace HT := Lib.hid (HT.out.same (d' := { d with blocks := d.blocks + 1, left := (d.left-512) }) (by rw [dset_left] at h1; exact h1) h2 h3 h4); clear h1 h2 h3 h4; have c18 : w4.cell? ⟨D, 17, none⟩ = some (.int .i64 (d.left-512)) := blk_cell HT.out.ds.blk 17)
      refine (HCL.out _ _ HT.out.ch).mono ?_
      rintro e w6 ⟨v6, rfl, hr6, hb6⟩
      obtain ⟨A6, k6, rfl, _, _⟩ := Kd.R_reads hr6
      have HV6 := Lib.hid (show RB w6 (.slice A6 l0.length k6) l0 from Kd.R_mono (Kd.R_lower hr6 (Nat.zero_le _)) (fun _ _ => trivial))
      replace HR := Lib.hid (blk_below HR.out hb6)
      replace HT := Lib.hid (HT.out.below hb6)
      clear hr6 hb6 HCL
      go_wp2_with ((with_reducible refine wpList_store_blk rfl 35 (.tmp 4) (.tmp 117) rfl w.heap.size (evD (.slice A6 l0.length k6)) rfl rfl HR.out rfl (by kernel_rfl) (by kernel_rfl) ?_); intro w9 h1 h2 h3 h4; replace HV6 := Lib.hid (R_past HV6.out HR.out (by decide) h2); replace HT := Lib.hid (HT.out.other HR.out rfl HS0.out h2 h3 h4); replace HR := Lib.hid h1; clear h1 h2 h3 h4)
      refine bodyPost_ret (results_blk rfl _ _ w.heap.size 35 (evD (.slice A6 l0.length k6)) (0, 0) _ (.int .u8 0) rfl HR.out rfl Tryz.underlying35 rfl (by kernel_rfl)) rfl ⟨_, _, _, _, rfl, ⟨_, rfl, HV6.out⟩, HH.out.trans HT.out⟩
     ·have hps := HO2.out.1
      have hle5 : d.left ≤ 512 := by omega
      have hm1 : ((512 : Int) < d.left) = False := eq_false hm
      obtain ⟨src, hsrc⟩ : ∃ src, l0.take d.left.toNat = src := ⟨_, rfl⟩
      obtain rfl : R = ({ d with blocks := d.blocks + 1, left := 0, st := 0 }, .data src, 0) := by rw [← HRR.out]; unfold blkC; rw [if_neg N5.out, if_neg N4.out, if_neg N1.out, if_pos E2.out, if_neg hm, hsrc]
      have hsl : src.length = d.left.toNat := by rw [← hsrc, List.length_take, HL0.out]; omega
      have hq0 : ((0 : Int) ≤ d.left) = True := eq_true (by omega)
      have hq1 : (d.left ≤ (c0 : Int)) = True := eq_true (by have := HC0.out; have := HL0.out; omega)
      have HCL : Hid (∀ W v', Chg w W D vb v' → Calls Tryz.prog 32 #[.slice A0 d.left.toNat c0] W fun e w' => ∃ v0_ : Value, e = .returned (v0_) ∧ Kd.R (Kd.int .u8) 5 w' W.heap.size (fun _ => True) v0_ src ∧ Below W.heap.size W w') := Lib.hid (fun W v' hc => by
       have h1 := Kd.C_take (m := d.left.toNat) (C_chg HR0.out hc HSEP.out) (by rw [HL0.out]; omega)
       rw [hsrc] at h1
       have := clone_bytes A0 c0 src W h1 (by omega)
       rw [hsl] at this
       exact this)
      clear hsrc hsl
      have cst : (w.alloc (.cells evA 35)).cell? ⟨D, 0, none⟩ = some (.int .i64 d.st) := blk_cell HT.out.ds.blk 0
      go_enter Tryz.func13, Tryz.ntmps13
      go_wp2_with first
       | ((with_reducible refine wpList_store_fld rfl 2 (.tmp 46) (.tmp 44) rfl D 1 (.int .i64 (d.blocks + 1)) rfl rfl HT.out.ds.blk (by kernel_rfl) (by kernel_rfl) rfl ?_); intro w3 h1 h2 h3 h4; replace HR := Lib.hid ((h2 _ HD.out).trans HR.out); replace HT := Lib.hid (HT.out.same (d' := { d with blocks := d.blocks + 1 }) (by rw [dset_blocks] at h1; exact h1) h2 h3 h4); clear h1 h2 h3 h4; have c3 : w3.cell? ⟨D, 0, none⟩ = some (.int .i64 d.st) := blk_cell HT.out.ds.blk 0; have c17 : w3.cell? ⟨D, 17, none⟩ = some (.int .i64 d.left) := blk_cell HT.out.ds.blk 17)
       | ((with_reducible refine wpList_store_fld rfl 2 (.tmp 104) (.tmp 102) rfl D 17 (.int .i64 0) rfl rfl HT.out.ds.blk (by kernel_rfl) (by kernel_rfl) rfl ?_); intro w4 h1 h2 h3 h4; replace HR := Lib.hid ((h2 _ HD.out).trans HR.out); replace HT := Lib.hid (HT.out.same (d' := { d with blocks := d.blocks + 1, left := 0 }) (by rw [dset_left] at h1; exact h1) h2 h3 h4); clear h1 h2 h3 h4; have c18 : w4.cell? ⟨D, 17, none⟩ = some (.int .i64 0) := blk_cell HT.out.ds.blk 17)
       | ((with_reducible refine wpList_store_fld rfl 3 (.tmp 112) (.const (.int .i64 0)) rfl D 0 (.int .i64 0) rfl rfl HT.out.ds.blk (by kernel_rfl) (by kernel_rfl) rfl ?_); intro w5 h1 h2 h3 h4; replace HR := Lib.hid ((h2 _ HD.out).trans HR.out); replace HT := Lib.hid (HT.out.same (d' := { d with blocks := d.blocks + 1, left := 0, st := 0 }) (by rw [dset_st] at h1; exact h1) h2 h3 h4); clear h1 h2 h3 h4)
      refine (HCL.out _ _ HT.out.ch).mono ?_
      rintro e w6 ⟨v6, rfl, hr6, hb6⟩
      obtain ⟨A6, k6, rfl, _, _⟩ := Kd.R_reads hr6
      have HV6 := Lib.hid (show RB w6 (.slice A6 src.length k6) src from Kd.R_mono (Kd.R_lower hr6 (Nat.zero_le _)) (fun _ _ => trivial))
      replace HR := Lib.hid (blk_below HR.out hb6)
      replace HT := Lib.hid (HT.out.below hb6)
      clear hr6 hb6 HCL
      go_wp2_with ((with_reducible refine wpList_store_blk rfl 35 (.tmp 4) (.tmp 117) rfl w.heap.size (evD (.slice A6 src.length k6)) rfl rfl HR.out rfl (by kernel_rfl) (by kernel_rfl) ?_); intro w9 h1 h2 h3 h4; replace HV6 := Lib.hid (R_past HV6.out HR.out (by decide) h2); replace HT := Lib.hid (HT.out.other HR.out rfl HS0.out h2 h3 h4); replace HR := Lib.hid h1; clear h1 h2 h3 h4)
      refine bodyPost_ret (results_blk rfl _ _ w.heap.size 35 (evD (.slice A6 src.length k6)) (0, 0) _ (.int .u8 0) rfl HR.out rfl Tryz.underlying35 rfl (by kernel_rfl)) rfl ⟨_, _, _, _, rfl, ⟨_, rfl, HV6.out⟩, HH.out.trans HT.out⟩
    | false =>
     have N2 := Lib.hid (show ¬ d.st = 2 from beq_eq_false_iff_ne.1 h2)
     have HZ := Lib.hid (zero_prog l0 HL0.out 600 (Nat.le_refl _))
     have HZC : Hid (∀ W v', Chg w W D vb v' → Calls Tryz.prog 33 #[.slice A0 512 c0] W fun e w' => e = .returned (.bool (blankV l0)) ∧ Below W.heap.size W w') := Lib.hid (fun W v' hc => by
      have := head_Zero.calls 600 A0 c0 l0 (blankV l0) W (C_chg HR0.out hc HSEP.out) HC0.out HZ.out
      rw [HL0.out] at this
      refine this.mono ?_
      rintro e w' ⟨h1, h2⟩
      exact ⟨h1, h2.below⟩)
     cases h3 : (d.st == 3) with
     | true =>
      have E3 := Lib.hid (show d.st = 3 from eq_of_beq h3)
      have HRB : Hid (R = if blankV l0 = false then failC { d with blocks := d.blocks + 1 } 4 (d.blocks - 1) else edC { d with blocks := d.blocks + 1 }) := Lib.hid (by rw [← HRR.out]; unfold blkC; rw [if_neg N5.out, if_neg N4.out, if_neg N1.out, if_neg N2.out, if_pos E3.out])
      have cst : (w.alloc (.cells evA 35)).cell? ⟨D, 0, none⟩ = some (.int .i64 d.st) := blk_cell HT.out.ds.blk 0
      go_enter Tryz.func13, Tryz.ntmps13
      go_wp2_with first
       | ((with_reducible refine wpList_store_fld rfl 2 (.tmp 46) (.tmp 44) rfl D 1 (.int .i64 (d.blocks + 1)) rfl rfl HT.out.ds.blk (by kernel_rfl) (by kernel_rfl) rfl ?_); intro w3 h1 h2 h3 h4; replace HR := Lib.hid ((h2 _ HD.out).trans HR.out); replace HT := Lib.hid (HT.out.same (d' := { d with blocks := d.blocks + 1 }) (by rw [dset_blocks] at h1; exact h1) h2 h3 h4); clear h1 h2 h3 h4; have c3 : w3.cell? ⟨D, 0, none⟩ = some (.int .i64 d.st) := blk_cell HT.out.ds.blk 0; have c17 : w3.cell? ⟨D, 17, none⟩ = some (.int .i64 d.left) := blk_cell HT.out.ds.blk 17)
      refine (HZC.out _ _ HT.out.ch).mono ?_
      rintro e w5 ⟨rfl, hb5⟩
      replace HR := Lib.hid (blk_below HR.out hb5)
      replace HT := Lib.hid (HT.out.below hb5)
      clear hb5
      cases hbz : blankV l0 with
      | false =>
       obtain rfl : R = failC { d with blocks := d.blocks + 1 } 4 (d.blocks - 1) := by rw [HRB.out, if_pos hbz]
       go_wp2_with fail
       refine (fail_calls HT.out.ds.start _ _).mono ?_
       rintro e w6 ⟨rfl, hT⟩
       replace HR := Lib.hid ((hT.ch.block _ (blk_lt HR.out) HD.out (HNO.out HT.out.ds HR.out)).trans HR.out)
       replace HT := Lib.hid (HT.out.trans hT)
       clear hT
       go_wp2_with first
        | ((with_reducible refine wpList_store_blk rfl 35 (.tmp 4) (.tmp 127) rfl w.heap.size evA rfl rfl HR.out rfl (by kernel_rfl) (by kernel_rfl) ?_); intro w9 h1 h2 h3 h4; replace HT := Lib.hid (HT.out.other HR.out rfl HS0.out h2 h3 h4); replace HR := Lib.hid h1; clear h1 h2 h3 h4)
       refine bodyPost_ret (results_blk rfl _ _ w.heap.size 35 evA (0, 0) _ (.int .u8 4) rfl HR.out rfl Tryz.underlying35 rfl (by kernel_rfl)) rfl ⟨_, _, _, _, rfl, rfl, HH.out.trans HT.out⟩
      | true =>
       have HRC : Hid (R = edC { d with blocks := d.blocks + 1 }) := Lib.hid (by rw [HRB.out, if_neg (by rw [hbz]; decide)])
       go_wp2_with fail
       refine (end_gen HT.out.ds.start _ _ _ _ _ _ rfl rfl rfl rfl rfl rfl (firstX d) rfl).mono ?_
       rintro e w6 hE
       unfold edC at HRC
       cases hF : decide (0 ≤ firstX d) with
       | true =>
        rw [hF, if_pos rfl] at hE
        obtain ⟨rfl, hT⟩ := hE
        obtain rfl : R = failC { d with blocks := d.blocks + 1 } 7 (firstX d) := by rw [HRC.out]; exact if_pos (of_decide_eq_true hF)
        replace HR := Lib.hid ((hT.ch.block _ (blk_lt HR.out) HD.out (HNO.out HT.out.ds HR.out)).trans HR.out)
        replace HT := Lib.hid (HT.out.trans hT)
        clear hT
        go_wp2_with first
         | ((with_reducible refine wpList_store_blk rfl 35 (.tmp 4) (.tmp 131) rfl w.heap.size evA rfl rfl HR.out rfl (by kernel_rfl) (by kernel_rfl) ?_); intro w9 h1 h2 h3 h4; replace HT := Lib.hid (HT.out.other HR.out rfl HS0.out h2 h3 h4); replace HR := Lib.hid h1; clear h1 h2 h3 h4)
        refine bodyPost_ret (results_blk rfl _ _ w.heap.size 35 evA (0, 0) _ (.int .u8 7) rfl HR.out rfl Tryz.underlying35 rfl (by kernel_rfl)) rfl ⟨_, _, _, _, rfl, rfl, HH.out.trans HT.out⟩
       | false =>
        rw [hF, if_neg (by decide)] at hE
        obtain ⟨rfl, hT⟩ := hE
        obtain rfl : R = ({ d with blocks := d.blocks + 1, st := 4 }, .fin, 0) := by rw [HRC.out]; exact if_neg (of_decide_eq_false hF)
        replace HR := Lib.hid ((hT.ch.block _ (blk_lt HR.out) HD.out (HNO.out HT.out.ds HR.out)).trans HR.out)
        replace HT := Lib.hid (HT.out.trans hT)
        clear hT
        go_wp2_with first
         | ((with_reducible refine wpList_store_blk rfl 35 (.tmp 4) (.tmp 131) rfl w.heap.size evE rfl rfl HR.out rfl (by kernel_rfl) (by kernel_rfl) ?_); intro w9 h1 h2 h3 h4; replace HT := Lib.hid (HT.out.other HR.out rfl HS0.out h2 h3 h4); replace HR := Lib.hid h1; clear h1 h2 h3 h4)
        refine bodyPost_ret (results_blk rfl _ _ w.heap.size 35 evE (0, 0) _ (.int .u8 0) rfl HR.out rfl Tryz.underlying35 rfl (by kernel_rfl)) rfl ⟨_, _, _, _, rfl, rfl, HH.out.trans HT.out⟩
     | false =>
      have N3 := Lib.hid (show ¬ d.st = 3 from beq_eq_false_iff_ne.1 h3)
      have HRB : Hid (R = if blankV l0 = true then ({ d with blocks := d.blocks + 1, st := 3 }, .none, 0) else headC { d with blocks := d.blocks + 1 } l0 d.blocks) := Lib.hid (by rw [← HRR.out]; unfold blkC; rw [if_neg N5.out, if_neg N4.out, if_neg N1.out, if_neg N2.out, if_neg N3.out])
      have cst : (w.alloc (.cells evA 35)).cell? ⟨D, 0, none⟩ = some (.int .i64 d.st) := blk_cell HT.out.ds.blk 0
      go_enter Tryz.func13, Tryz.ntmps13
      go_wp2_with first
       | ((with_reducible refine wpList_store_fld rfl 2 (.tmp 46) (.tmp 44) rfl D 1 (.int .i64 (d.blocks + 1)) rfl rfl HT.out.ds.blk (by kernel_rfl) (by kernel_rfl) rfl ?_); intro w3 h1 h2 h3 h4; replace HR := Lib.hid ((h2 _ HD.out).trans HR.out); replace HT := Lib.hid (HT.out.same (d' := { d with blocks := d.blocks + 1 }) (by rw [dset_blocks] at h1; exact h1) h2 h3 h4); clear h1 h2 h3 h4; have c3 : w3.cell? ⟨D, 0, none⟩ = some (.int .i64 d.st) := blk_cell HT.out.ds.blk 0; have c17 : w3.cell? ⟨D, 17, none⟩ = some (.int .i64 d.left) := blk_cell HT.out.ds.blk 17)
      refine (HZC.out _ _ HT.out.ch).mono ?_
      rintro e w5 ⟨rfl, hb5⟩
      replace HR := Lib.hid (blk_below HR.out hb5)
      replace HT := Lib.hid (HT.out.below hb5)
      clear hb5
      cases hbz : blankV l0 with
      | true =>
       obtain rfl : R = ({ d with blocks := d.blocks + 1, st := 3 }, .none, 0) := by rw [HRB.out, if_pos hbz]
       go_wp2_with first
        | ((with_reducible refine wpList_store_fld rfl 3 (.tmp 137) (.const (.int .i64 3)) rfl D 0 (.int .i64 3) rfl rfl HT.out.ds.blk (by kernel_rfl) (by kernel_rfl) rfl ?_); intro w6 h1 h2 h3 h4; replace HR := Lib.hid ((h2 _ HD.out).trans HR.out); replace HT := Lib.hid (HT.out.same (d' := { d with blocks := d.blocks + 1, st := 3 }) (by rw [dset_st] at h1; exact h1) h2 h3 h4); clear h1 h2 h3 h4)
        | ((with_reducible refine wpList_store_blk rfl 35 (.tmp 4) (.tmp 138) rfl w.heap.size evA rfl rfl HR.out rfl (by kernel_rfl) (by kernel_rfl) ?_); intro w9 h1 h2 h3 h4; replace HT := Lib.hid (HT.out.other HR.out rfl HS0.out h2 h3 h4); replace HR := Lib.hid h1; clear h1 h2 h3 h4)
       refine bodyPost_ret (results_blk rfl _ _ w.heap.size 35 evA (0, 0) _ (.int .u8 0) rfl HR.out rfl Tryz.underlying35 rfl (by kernel_rfl)) rfl ⟨_, _, _, _, rfl, rfl, HH.out.trans HT.out⟩
      | false =>
       have HRC : Hid (R = headC { d with blocks := d.blocks + 1 } l0 d.blocks) := Lib.hid (by rw [HRB.out, if_neg (by rw [hbz]; decide)])
       go_wp2_with fail
       have hhd := header_calls (D := D) HT.out.ds.start (DG.chg HQ.out HS6.out HT.out.ch) (Nat.le_trans HS6.out HT.out.ch.size) HI.out.pr A0 c0 l0 (C_chg HR0.out HT.out.ch HSEP.out) HC0.out HL0.out HB0.out d.blocks hbl0
       rw [HL0.out] at hhd
       refine hhd.mono ?_
       clear hhd
       rintro e w6 ⟨cs, vl2, vg2, vb2, rfl, hev, hT⟩
       obtain ⟨X1, hX1⟩ : ∃ X1, headC { d with blocks := d.blocks + 1 } l0 d.blocks = X1 := ⟨_, rfl⟩
       rw [hX1] at hev hT HRC ⊢
       clear hX1
       obtain rfl := HRC.out
       replace HR := Lib.hid ((hT.ch.block _ (blk_lt HR.out) HD.out (HNO.out HT.out.ds HR.out)).trans HR.out)
       replace HT := Lib.hid (HT.out.trans hT)
       have HEV := Lib.hid hev
       have HCS := Lib.hid (ev_form hev)
       clear hT hev
       go_wp2_with ((with_reducible refine wpList_store_blk rfl 35 (.tmp 4) (.tmp 143) rfl w.heap.size cs rfl rfl HR.out HCS.out.1 HCS.out.2.1 HCS.out.2.2 ?_); intro w9 h1 h2 h3 h4; replace HEV := Lib.hid (ev_past HEV.out HR.out h2); replace HT := Lib.hid (HT.out.other HR.out rfl HS0.out h2 h3 h4); replace HR := Lib.hid h1; clear h1 h2 h3 h4)
       refine bodyPost_ret (results_blk rfl _ _ w.heap.size 35 cs (0, 0) _ (.int .u8 R.2.2) rfl HR.out rfl Tryz.underlying35 rfl HCS.out.2.1) rfl ⟨_, _, _, _, rfl, HEV.out, HH.out.trans HT.out⟩
end
end Go.Proofs.YtddhkfdfhbpblaaGreatDoor.P
namespace Go.Proofs.YtddhkfdfhbpblaaGreatDoor.P
open Go.RowKit Go.Proofs.YtddhkfdfhbpblaaGreatDoorW.PrintWords Go.Proofs.YtddhkfdfhbpblaaGreatDoorW.PrintLast Go.Proofs.YtddhkfdfhbpblaaGreatDoorW.PrintMore
open Go.Proofs.YtddhkfdfhbpblaaGreatDoor
set_option linter.unusedVariables false
abbrev mx : Int := 9223372036854775807
theorem dig8_le : ∀ (l : List Int) (n m : Int) (r : List Int), n ≤ mx → dig8 n l = some (m, r) → m ≤ mx
 | [], n, m, r, h, e => by
  rw [dig8] at e
  injection e with e
  injection e with e _
  omega
 | c :: t, n, m, r, h, e => by
  rw [dig8] at e
  split at e
  ·rename_i hc
   split at e
   ·cases e
   ·rename_i hn
    exact dig8_le t _ m r (by show 8 * n + (c - 48) ≤ 9223372036854775807; omega) e
  ·injection e with e
   injection e with e _
   omega
theorem octV_le (l : List Int) : (octV l).1 ≤ mx := by
 unfold octV
 cases e : dig8 0 (l.dropWhile fun c => c == 32) with
 | none => show (0 : Int) ≤ mx; decide
 | some q =>
  obtain ⟨m, r⟩ := q
  have := dig8_le _ _ _ _ (by decide) e
  unfold octF
  dsimp only
  split
  ·exact this
  ·show (0 : Int) ≤ mx; decide
theorem flip_range (s : Bool) (l : List Int) (h : byteL l = true) : ∀ c ∈ l.map (NumLaw.flip s), 0 ≤ c ∧ c ≤ 255 := by
 intro c hc
 obtain ⟨x, hx, rfl⟩ := List.mem_map.1 hc
 have := byteL_iff.1 h x hx
 unfold NumLaw.flip
 split <;> omega
theorem refL_rg : ∀ (l : List Int) (n : Int), (∀ c ∈ l, 0 ≤ c ∧ c ≤ 255) → 0 ≤ n → n ≤ mx → 0 ≤ (NumLaw.refL n l).1 ∧ (NumLaw.refL n l).1 ≤ mx
 | [], n, _, h0, h => ⟨h0, h⟩
 | c :: t, n, hb, h0, h => by
  rw [NumLaw.refL]
  split
  ·exact ⟨Int.le_refl 0, by decide⟩
  ·have := hb c (List.mem_cons_self ..)
   exact refL_rg t _ (fun x hx => hb x (List.mem_cons_of_mem _ hx)) (by omega) (by show 256 * n + c ≤ 9223372036854775807; omega)
theorem wideV_le (l : List Int) (h : byteL l = true) : (wideV l).1 ≤ mx := by
 unfold wideV
 split
 ·show (0 : Int) ≤ mx; decide
 ·have ht : byteL l.tail = true := byteL_iff.2 fun c hc => byteL_iff.1 h c (List.mem_of_mem_tail hc)
  have := refL_rg _ 0 (flip_range (l.headD 0 == 255) l.tail ht) (Int.le_refl 0) (by decide)
  unfold NumLaw.refW
  dsimp only
  split
  ·show (0 : Int) ≤ mx; decide
  ·dsimp only
   split
   ·have h1 := this.1
    show _ ≤ (9223372036854775807 : Int); omega
   ·exact this.2
theorem fieldV_le (l : List Int) (h : byteL l = true) : (fieldV l).1 ≤ mx := by
 unfold fieldV
 split
 ·exact wideV_le l h
 ·exact octV_le l
theorem numV_le (l : List Int) (i : Nat) (h : byteL l = true) : (numV l i).1 ≤ mx := by
 have hc : byteL (cutL l (numAt i).1 (numAt i).2) = true := byteL_iff.2 fun c hc => byteL_iff.1 h c (List.mem_of_mem_take (List.mem_of_mem_drop hc))
 have := fieldV_le _ hc
 unfold numV
 split
 ·split
  ·show (0 : Int) ≤ mx; decide
  ·exact this
 ·show (0 : Int) ≤ mx; decide
theorem nvalV_le (l : List UInt8) : nvalV l ≤ mx := by
 unfold nvalV
 split
 ·rename_i h
  unfold numOK at h
  simp only [Bool.and_eq_true, decide_eq_true_eq] at h
  show _ ≤ (9223372036854775807 : Int)
  omega
 ·decide
theorem step_f6 (h : HdP) (q : Pr) (hh : h.f6 ≤ mx) : (stepH h q).f6 ≤ mx := by
 unfold stepH
 split
 ·unfold sayV
  repeat' split
  all_goals first | exact hh | exact nvalV_le _
 ·exact hh
theorem fold_f6 : ∀ (l : List Pr) (h : HdP), h.f6 ≤ mx → (l.foldl stepH h).f6 ≤ mx
 | [], h, hh => hh
 | q :: t, h, hh => fold_f6 t _ (step_f6 h q hh)
theorem item_f6 (l : List Int) (r : Raw) (p : Pend) (h : byteL l = true) : (itemC l r p).1.f6 ≤ mx := by
 have h0 : (hd0 : HdP).f6 ≤ mx := by decide
 have he : ∀ (x : HdP) (k : Int) (b : Bool), x.f6 ≤ mx → (endV x k b).1.f6 ≤ mx := by
  intro x k b hx
  unfold endV
  split
  ·exact h0
  ·split
   ·exact h0
   ·exact hx
 unfold itemC
 split
 ·exact h0
 ·split
  ·exact h0
  ·refine he _ _ _ ?_
   unfold laidH
   have := fold_f6 (layP p.glo p.loc) (rawH l r (nameC r p) (if 0 ≤ p.aL then p.link else r.link)) (numV_le l 3 h)
   unfold cutL2
   split
   ·exact this
   ·exact this
theorem last_mem : ∀ (l : List Pr) (x : Pr), x ∈ lastL l → x ∈ l
 | [], x, h => h
 | p :: t, x, h => by
  rw [lastL] at h
  split at h
  ·exact List.mem_cons_of_mem _ (last_mem t x h)
  ·rcases List.mem_cons.1 h with rfl | h
   ·exact List.mem_cons_self ..
   ·exact List.mem_cons_of_mem _ (last_mem t x h)
theorem last_len : ∀ (l : List Pr), (lastL l).length ≤ l.length
 | [] => Nat.le_refl _
 | p :: t => by
  have := last_len t
  rw [lastL]
  split
  ·rw [List.length_cons]; omega
  ·rw [List.length_cons, List.length_cons]; omega
theorem sum_mem {α : Type} (f : α → Nat) : ∀ (l : List α) (x : α), x ∈ l → f x ≤ (l.map f).sum
 | y :: t, x, h => by
  rw [List.map_cons, List.sum_cons]
  rcases List.mem_cons.1 h with rfl | h
  ·omega
  ·have := sum_mem f t x h
   omega
theorem pay_right {l : List Int} {ps : List PrP} (h : payV l = some ps) : ps.length ≤ l.length ∧ ∀ x ∈ ps, pOK x = true ∧ x.f0.size + x.f1.size ≤ l.length := by
 refine ⟨pay_len h, ?_⟩
 unfold payV at h
 obtain ⟨q, hq, rfl⟩ := Option.map_eq_some_iff.1 h
 obtain ⟨h1, h2⟩ := recsF_right _ _ _ hq
 rw [bytesOf_len] at h2
 intro x hx
 obtain ⟨y, hy, rfl⟩ := List.mem_map.1 hx
 have h3 := sum_mem (fun p : List UInt8 × List UInt8 => p.1.length + p.2.length) q y hy
 refine ⟨?_, ?_⟩
 ·show pairOK (tx y.1).data.toList (tx y.2).data.toList = true
  rw [tx_data, tx_data]
  exact h1 y hy
 ·show (tx y.1).size + (tx y.2).size ≤ _
  rw [tx_size, tx_size]
  omega
structure DM (n : Nat) (d : Dc) : Prop where
 bl : 0 ≤ d.blocks ∧ d.blocks ≤ n
 ok : ∀ x ∈ d.p.glo ++ d.p.loc, pOK x = true
 sz : ∀ x ∈ d.p.glo ++ d.p.loc, x.f0.size + x.f1.size ≤ 512 * n
 gl : d.p.glo.length ≤ 15000 * n
 lo : d.p.loc.length ≤ 512 * n
 nm : d.p.name.size ≤ 512 * n
 lk : d.p.link.size ≤ 512 * n
 bu : d.buf.length ≤ 512 * n
structure DN (n : Nat) (d : Dc) : Prop where
 dm : DM n d
 one : d.st = 1 → 0 < d.left ∧ d.left ≤ 65536 ∧ byteL d.buf = true ∧ 0 ≤ d.from_
 two : d.st = 2 → 0 < d.left ∧ d.left ≤ 9223372036854775807
theorem DN.di {n : Nat} {d : Dc} (h : DN n d) (hn : n ≤ 29) : DI d := by
 obtain ⟨⟨bl, ok, sz, gl, lo, nm, lk, bu⟩, one, two⟩ := h
 refine ⟨⟨bl.1, by omega⟩, one, two, ⟨ok, fun x hx => ?_, by omega, by omega, by omega⟩, by omega⟩
 have := sz x hx
 omega
theorem DM.up {n : Nat} {d : Dc} (h : DM n d) : DM (n + 1) { d with blocks := d.blocks + 1 } := by
 obtain ⟨bl, ok, sz, gl, lo, nm, lk, bu⟩ := h
 refine ⟨⟨by show 0 ≤ d.blocks + 1; omega, by show d.blocks + 1 ≤ _; omega⟩, ok, fun x hx => ?_, ?_, ?_, ?_, ?_, ?_⟩
 ·have := sz x hx; omega
 ·show d.p.glo.length ≤ _; omega
 ·show d.p.loc.length ≤ _; omega
 ·show d.p.name.size ≤ _; omega
 ·show d.p.link.size ≤ _; omega
 ·show d.buf.length ≤ _; omega
theorem DM.stay {n : Nat} {d : Dc} (h : DM n d) : DM (n + 1) d := by
 obtain ⟨bl, ok, sz, gl, lo, nm, lk, bu⟩ := h
 exact ⟨⟨bl.1, by omega⟩, ok, fun x hx => by have := sz x hx; omega, by omega, by omega, by omega, by omega, by omega⟩
theorem DM.same {n : Nat} {d e : Dc} (h : DM n d) (hb : e.blocks = d.blocks) (hp : e.p = d.p) (hl : e.buf.length ≤ 512 * n) : DM n e := by
 obtain ⟨bl, ok, sz, gl, lo, nm, lk, bu⟩ := h
 exact ⟨hb ▸ bl, hp ▸ ok, hp ▸ sz, hp ▸ gl, hp ▸ lo, hp ▸ nm, hp ▸ lk, hl⟩
theorem ext_keep {n : Nat} {d : Dc} (hn : n + 1 ≤ 29) (h : DM (n + 1) d) (hg : d.p.glo.length ≤ 15000 * n) : DN (n + 1) (extC d).1 := by
 obtain ⟨bl, ok, sz, gl, lo, nm, lk, bu⟩ := h
 have hk : DM (n + 1) { d with buf := [], st := 0, p := (extV d.fl d.buf d.from_ d.p).1, xt := if d.fl = 76 ∨ d.fl = 75 ∨ d.fl = 103 then d.xt else d.from_ } := by
  have hgt := getT_size d.buf
  have hz : ([] : List Int).length ≤ 512 * (n + 1) := Nat.zero_le _
  have same : DM (n + 1) { d with buf := [], st := 0, p := d.p, xt := if d.fl = 76 ∨ d.fl = 75 ∨ d.fl = 103 then d.xt else d.from_ } := ⟨bl, ok, sz, gl, lo, nm, lk, hz⟩
  unfold extV
  split
  ·split
   ·exact same
   ·split
    ·exact ⟨bl, ok, sz, gl, lo, by show (getT d.buf).size ≤ _; omega, lk, hz⟩
    ·exact ⟨bl, ok, sz, gl, lo, nm, by show (getT d.buf).size ≤ _; omega, hz⟩
  ·cases e : payV d.buf with
   | none => exact same
   | some ps =>
    obtain ⟨hl, hr⟩ := pay_right e
    dsimp only
    split
    ·refine ⟨bl, fun x hx => ?_, fun x hx => ?_, ?_, lo, nm, lk, hz⟩
     ·rcases List.mem_append.1 hx with hx | hx
      ·rcases List.mem_append.1 (layP_mem hx) with hx | hx
       ·exact ok x (List.mem_append_left _ hx)
       ·exact (hr x hx).1
      ·exact ok x (List.mem_append_right _ hx)
     ·rcases List.mem_append.1 hx with hx | hx
      ·rcases List.mem_append.1 (layP_mem hx) with hx | hx
       ·exact sz x (List.mem_append_left _ hx)
       ·have := (hr x hx).2; omega
      ·exact sz x (List.mem_append_right _ hx)
     ·have := lay_len d.p.glo ps
      show (layP d.p.glo ps).length ≤ _
      omega
    ·refine ⟨bl, fun x hx => ?_, fun x hx => ?_, gl, ?_, nm, lk, hz⟩
     ·rcases List.mem_append.1 hx with hx | hx
      ·exact ok x (List.mem_append_left _ hx)
      ·exact (hr x (last_mem ps x hx)).1
     ·rcases List.mem_append.1 hx with hx | hx
      ·exact sz x (List.mem_append_left _ hx)
      ·have := (hr x (last_mem ps x hx)).2; omega
     ·have := last_len ps
      show (lastL ps).length ≤ _
      omega
 unfold extC
 split
 ·exact ⟨⟨bl, ok, sz, gl, lo, nm, lk, Nat.zero_le _⟩, fun h => (by cases h), fun h => (by cases h)⟩
 ·exact ⟨hk, fun h => (by cases h), fun h => (by cases h)⟩
theorem DN.fail {n : Nat} {d : Dc} (h : DM n d) (c a : Int) : DN n (failC d c a).1 := by
 obtain ⟨bl, ok, sz, gl, lo, nm, lk, bu⟩ := h
 exact ⟨⟨bl, ok, sz, gl, lo, nm, lk, bu⟩, fun h => (by cases h), fun h => (by cases h)⟩
theorem head_keep {n : Nat} {d : Dc} (hn : n + 1 ≤ 29) (h : DM (n + 1) d) (hg : d.p.glo.length ≤ 15000 * n) (l : List Int) (a : Int) (ha : 0 ≤ a) (hb : byteL l = true) : DN (n + 1) (headC d l a).1 := by
 unfold headC
 split
 ·exact DN.fail h _ _
 split
 ·split
  ·exact DN.fail h _ _
  split
  ·exact DN.fail h _ _
  split
  ·exact ext_keep hn (h.same rfl rfl (Nat.zero_le _)) hg
  ·rename_i h1 h2 h3
   have := numV_nn (l := l) (i := 3) (by omega) (by decide)
   exact ⟨h.same rfl rfl (Nat.zero_le _), fun _ => ⟨by show 0 < (numV l 3).1; omega, by show (numV l 3).1 ≤ 65536; omega, rfl, ha⟩, fun h => (by cases h)⟩
 split
 ·exact DN.fail h _ _
 ·obtain ⟨bl, ok, sz, gl, lo, nm, lk, bu⟩ := h
  refine ⟨⟨bl, fun x hx => ?_, fun x hx => ?_, gl, Nat.zero_le _, Nat.zero_le _, Nat.zero_le _, bu⟩, fun h => ?_, fun h => ?_⟩
  ·rcases List.mem_append.1 hx with hx | hx
   ·exact ok x (List.mem_append_left _ hx)
   ·cases hx
  ·rcases List.mem_append.1 hx with hx | hx
   ·exact sz x (List.mem_append_left _ hx)
   ·cases hx
  ·have h : (if (itemC l (getR l).1 d.p).1.f6 > 0 then (2 : Int) else 0) = 1 := h
   split at h <;> cases h
  ·have h : (if (itemC l (getR l).1 d.p).1.f6 > 0 then (2 : Int) else 0) = 2 := h
   split at h
   ·rename_i h6
    exact ⟨h6, item_f6 l (getR l).1 d.p hb⟩
   ·cases h
theorem blk_keep {n : Nat} {d : Dc} (hn : n + 1 ≤ 29) (h : DN n d) (l : List Int) (hl : l.length = 512) (hb : byteL l = true) : DN (n + 1) (blkC d l).1 := by
 have hu := h.dm.up
 unfold blkC
 split
 ·exact ⟨h.dm.stay, h.one, h.two⟩
 split
 ·exact ⟨h.dm.stay, h.one, h.two⟩
 split
 ·rename_i h1
  obtain ⟨o1, o2, o3, o4⟩ := h.one h1
  split
  ·refine ⟨hu.same rfl rfl ?_, fun _ => ⟨by show 0 < d.left - 512; omega, by show d.left - 512 ≤ _; omega, ?_, o4⟩, fun h => ?_⟩
   ·show (d.buf ++ l).length ≤ _
    rw [List.length_append]
    have := h.dm.bu
    omega
   ·exact byteL_iff.2 fun c hc => (List.mem_append.1 hc).elim (byteL_iff.1 o3 c) (byteL_iff.1 hb c)
   ·have h : d.st = 2 := h
    omega
  ·refine ext_keep hn (hu.same rfl rfl ?_) h.dm.gl
   show (d.buf ++ l.take d.left.toNat).length ≤ _
   rw [List.length_append, List.length_take]
   have := h.dm.bu
   omega
 split
 ·rename_i h2
  obtain ⟨o1, o2⟩ := h.two h2
  split
  ·refine ⟨hu.same rfl rfl ?_, fun h => ?_, fun _ => ⟨by show 0 < d.left - 512; omega, by show d.left - 512 ≤ _; omega⟩⟩
   ·show d.buf.length ≤ _
    have := h.dm.bu
    omega
   ·have h : d.st = 1 := h
    omega
  ·refine ⟨hu.same rfl rfl ?_, fun h => (by cases h), fun h => (by cases h)⟩
   show d.buf.length ≤ _
   have := h.dm.bu
   omega
 split
 ·split
  ·exact DN.fail hu _ _
  ·unfold edC
   split
   ·exact DN.fail hu _ _
   ·refine ⟨hu.same rfl rfl hu.bu, fun h => (by cases h), fun h => (by cases h)⟩
 split
 ·refine ⟨hu.same rfl rfl hu.bu, fun h => (by cases h), fun h => (by cases h)⟩
 ·exact head_keep hn hu h.dm.gl l d.blocks h.dm.bl.1 hb
theorem zero_keep : DN 0 dZero := by
 refine ⟨⟨⟨Int.le_refl 0, Int.le_refl 0⟩, fun x hx => (by cases hx), fun x hx => (by cases hx), Nat.zero_le _, Nat.zero_le _, Nat.zero_le _, Nat.zero_le _, Nat.zero_le _⟩, fun h => (by cases h), fun h => (by cases h)⟩
end Go.Proofs.YtddhkfdfhbpblaaGreatDoor.P
namespace Go.Proofs.YtddhkfdfhbpblaaGreatDoor.P
open Go.RowKit Go.Proofs.YtddhkfdfhbpblaaGreatDoorW.PrintWords Go.Proofs.YtddhkfdfhbpblaaGreatDoorW.PrintLast Go.Proofs.YtddhkfdfhbpblaaGreatDoorW.PrintMore
open Go.Proofs.YtddhkfdfhbpblaaGreatDoor
set_option linter.unusedVariables false
attribute [local go_sem] Oper.semAt_some
def zsL (n : Nat) : List Int := List.replicate n 0
theorem zs_len (n : Nat) : (zsL n).length = n := List.length_replicate
theorem zs_byte (n : Nat) : byteL (zsL n) = true := byteL_iff.2 fun c hc => by rw [(List.mem_replicate.1 hc).2]; decide
theorem zs_blank (n : Nat) : blankV (zsL n) = true := List.all_eq_true.2 fun c hc => by rw [(List.mem_replicate.1 hc).2]; rfl
abbrev dOne : Dc := { dZero with blocks := 1, st := 3 }
abbrev dTwo : Dc := { dZero with blocks := 2, st := 4 }
theorem blk_one : blkC dZero (zsL 512) = (dOne, .none, 0) := by
 unfold blkC
 rw [zs_blank]
 rfl
theorem blk_two : blkC dOne (zsL 512) = (dTwo, .fin, 0) := by
 unfold blkC
 rw [zs_blank]
 rfl
section
variable {w0 w : World} {v0 : Value} {D : Nat} {d : Dc} {vl vg vb : Value}
theorem block512 (h : DT w0 v0 w D d vl vg vb) (hq : DG w D vb) (hs6 : 6 ≤ w.heap.size) (hi : DI d) (A0 : Option Addr) (c0 : Nat) (l0 : List Int) (hr0 : Kd.C (Kd.int .u8) w A0 l0.length l0) (hc0 : 512 ≤ c0) (hl : l0.length = 512) (hb : byteL l0 = true) (hsep : ∀ ad, A0 = some ad → ad.block ≠ D ∧ some ad.block ≠ vb.ownBlock) {r : Dc × EvV × Int} (hr : blkC d l0 = r) :
  Calls Tryz.prog 13 #[.pointer (some ⟨D, 0, none⟩), .slice A0 512 c0] w fun e w' => HeadPost w0 v0 D r e w' := by
 have := block_calls h hq hs6 hi A0 c0 l0 hr0 (by omega) hl hb hsep
 rw [hl, hr] at this
 exact this
end
section
variable {P : Program} {ops : Array Oper} {rest : List Oper} {o : Oper} {a : Act} {Q : Exit → Act → World → Prop}
theorem wpList_store_fresh {W : World} (hgd : o.guard = none) (ty : TypeId) (x y : Operand) (ho : o.op = .store ty x y) (z cells : Array Value) (t : TypeId) (hx : a.eval x = .pointer (some ⟨W.heap.size, 0, none⟩)) (hy : a.eval y = .agg cells)
  (hs : cells.size = z.size) (hi : (P.info? ty).map (·.size) = some cells.size) (h1 : cells.all (·.oneCell') = true)
  (h : ∀ w' : World, w'.heap[W.heap.size]? = some (.cells cells t (0, 0)) → Below W.heap.size W w' → wpList P ops Q rest (a.put o.dst undef) w') : wpList P ops Q (o :: rest) a (W.alloc (.cells z t)) :=
 wpList_store_blk hgd ty x y ho W.heap.size cells hx hy (heap_alloc_new W _) hs hi h1 fun w' h1 h2 h3 h4 =>
  h w' h1 (h4 _ _ (Nat.le_refl _) ((Below.refl _ W).alloc (Nat.le_refl _) _))
end
section
variable {w0 w w' : World} {v0 v' : Value} {D : Nat} {d d' : Dc} {vl vg vb vl' vg' vb' : Value}
theorem blk_chg (h : DS w D d vl vg vb) (c : Chg w w' D vb v') {g : Nat} {cs : Array Value} {t : TypeId} (hb : w.heap[g]? = some (.cells cs t (0, 0))) (ht : (t != 73 && t != 5) = true) : w'.heap[g]? = some (.cells cs t (0, 0)) := by
 simp only [Bool.and_eq_true, bne_iff_ne, ne_eq] at ht
 refine (c.block g (blk_lt hb) (fun e => ?_) (DS_own_ne h hb (Ne.symm ht.2))).trans hb
 subst e
 have := hb.symm.trans h.blk
 injection this with this
 injection this with _ e
 exact ht.1 e
end
theorem zs_C (w1 : World) : Kd.C kB (w1.alloc (.cells (madeCells #[.int .u8 0] 512) 5)) (some ⟨w1.heap.size, 0, none⟩) (zsL 512).length (zsL 512) := by
 have hr : RB (w1.alloc (.cells (madeCells #[.int .u8 0] 512) 5)) (.slice (some ⟨w1.heap.size, 0, none⟩) 512 512) (zsL 512) := Kd.R_of_own (by rw [zs_len]; exact own_made w1 0 5 .u8 512 (Nat.zero_le _) (by decide)) (fun _ _ => trivial)
 obtain ⟨A, c, e, _, hc⟩ := Kd.R_reads hr
 injection e with e
 exact e ▸ hc
set_option maxRecDepth 100000 in
set_option maxHeartbeats 6400000 in
theorem alive_calls (w : World) (hG : Glob w) (hs6 : 6 ≤ w.heap.size) :
  Calls Tryz.prog 10 #[] w fun e w' => e = .returned (.bool true) ∧ Below w.heap.size w w' := by
 have hmk : ∀ W : World, (Instr.makeSlice 22 (.int .i64 512) (.int .i64 512)).run Tryz.prog W = .ok (.slice (some ⟨W.heap.size, 0, none⟩) 512 512) (W.alloc (.cells (madeCells #[.int .u8 0] 512) 5)) := print_make (P := Tryz.prog) 22 5 .u8 1 Tryz.underlying22 (by kernel_rfl) (by decide) 512 (by decide)
 have HG := Lib.hid hG
 have H6 := Lib.hid hs6
 clear hG hs6
 go_enter Tryz.func10, Tryz.ntmps10
 go_wp2_with fail
 refine (new_calls _).mono ?_
 rintro e w1 ⟨rfl, hds, hb1⟩
 have hD := hds.lt
 have HB1 := Lib.hid hb1
 have HT1 := Lib.hid (hds.below (below_alloc (Below.refl w1.heap.size w1) (.cells (madeCells #[.int .u8 0] 512) 5))).start
 have HZ1 := Lib.hid (zs_C w1)
 have HS1 := Lib.hid hD
 have HQ1 : Hid (DG (w1.alloc (.cells (madeCells #[.int .u8 0] 512) 5)) w.heap.size (.slice none 0 0)) := Lib.hid ⟨(HG.out.below hb1).below (below_alloc (Below.refl w1.heap.size w1) _), H6.out, fun k hk => by simp [Value.ownBlock] at hk⟩
 have HB2 := Lib.hid (below_step hb1 (below_alloc (Below.refl w1.heap.size w1) (.cells (madeCells #[.int .u8 0] 512) 5)))
 clear hds hb1 hD
 go_wp2_with fail
 refine (block512 HT1.out HQ1.out (by rw [World.size_alloc]; have := HS1.out; have := H6.out; omega) (zero_keep.di (by decide)) (some ⟨w1.heap.size, 0, none⟩) 512 (zsL 512) HZ1.out (Nat.le_refl _) (zs_len _) (zs_byte _) (fun ad e => by injection e with e; subst e; exact ⟨Nat.ne_of_gt HS1.out, by simp [Value.ownBlock]⟩) blk_one).mono ?_
 rintro e w3 ⟨cs, vl1, vg1, vb1, rfl, he, ht⟩
 obtain rfl : cs = evA := he
 have HZ3 := Lib.hid (C_chg HZ1.out ht.ch (fun ad e => by injection e with e; subst e; exact ⟨Nat.ne_of_gt HS1.out, by simp [Value.ownBlock]⟩))
 have HT3 := Lib.hid ht
 have HQ3 := Lib.hid (HQ1.out.chg (by rw [World.size_alloc]; have := HS1.out; have := H6.out; omega) ht.ch)
 have HV3 : Hid (some w1.heap.size ≠ vb1.ownBlock) := Lib.hid (by
  rcases ht.ch.own with e | e | ⟨b, e, hb⟩
  ·rw [e]; simp [Value.ownBlock]
  ·rw [e]; simp
  ·rw [e]; rw [World.size_alloc] at hb; intro h; injection h; omega)
 clear ht
 go_wp2_with ((with_reducible refine wpList_store_fresh rfl 35 (.tmp 3) (.tmp 14) rfl evA evA 35 rfl rfl rfl (by kernel_rfl) (by kernel_rfl) ?_); intro w4 bx1 hb4; have HX1 := Lib.hid bx1; have HT4 := Lib.hid (HT3.out.below hb4); have HZ4 := Lib.hid (Kd.C_below HZ3.out hb4); have HQ4 := Lib.hid (HQ3.out.below hb4); clear bx1 hb4)
 have hst := stop_calls HT4.out.ds.start false
 rw [show stopV dOne false = (8, 1) from rfl] at hst
 refine hst.mono ?_
 clear hst
 rintro e w5 ⟨rfl, ht⟩
 have HX5 := Lib.hid (blk_chg HT4.out.ds ht.ch HX1.out rfl)
 have HZ5 := Lib.hid (C_chg HZ4.out ht.ch (fun ad e => by injection e with e; subst e; exact ⟨Nat.ne_of_gt HS1.out, HV3.out⟩))
 have HQ5 := Lib.hid (HQ4.out.chg (Nat.le_trans HQ4.out.dge (Nat.le_of_lt HT4.out.ds.lt)) ht.ch)
 have HT5 := Lib.hid (HT4.out.trans ht)
 clear ht
 go_wp2_with ((with_reducible refine wpList_store_fresh rfl 41 (.tmp 5) (.tmp 17) rfl (fltA 0 0) (fltA 8 1) 41 rfl rfl rfl (by kernel_rfl) (by kernel_rfl) ?_); intro w6 bx6 hb6; have HF6 := Lib.hid bx6; have HX6 := Lib.hid (blk_below HX5.out hb6); have HT6 := Lib.hid (HT5.out.below hb6); have HZ6 := Lib.hid (Kd.C_below HZ5.out hb6); have HQ6 := Lib.hid (HQ5.out.below hb6); clear bx6 hb6)
 refine (block512 HT6.out.ds.start HQ6.out (Nat.le_trans HQ6.out.dge (Nat.le_of_lt HT6.out.ds.lt)) ((blk_one ▸ blk_keep (by decide) zero_keep (zsL 512) (zs_len _) (zs_byte _) : DN 1 (dOne, (StepLaw.Ev.none : EvV), (0 : Int)).1).di (by decide)) (some ⟨w1.heap.size, 0, none⟩) 512 (zsL 512) HZ6.out (Nat.le_refl _) (zs_len _) (zs_byte _) (fun ad e => by injection e with e; subst e; exact ⟨Nat.ne_of_gt HS1.out, HV3.out⟩) blk_two).mono ?_
 rintro e w7 ⟨cs, vl2, vg2, vb2, rfl, he, ht⟩
 obtain rfl : cs = evE := he
 have HX7 := Lib.hid (blk_chg HT6.out.ds ht.ch HX6.out rfl)
 have HF7 := Lib.hid (blk_chg HT6.out.ds ht.ch HF6.out rfl)
 have HT7 := Lib.hid (HT6.out.trans ht)
 clear ht
 go_wp2_with ((with_reducible refine wpList_store_fresh rfl 35 (.tmp 6) (.tmp 22) rfl evA evE 35 rfl rfl rfl (by kernel_rfl) (by kernel_rfl) ?_); intro w8 bx8 hb8; have HY8 := Lib.hid bx8; have HX8 := Lib.hid (blk_below HX7.out hb8); have HF8 := Lib.hid (blk_below HF7.out hb8); have HT8 := Lib.hid (HT7.out.below hb8); have k1 : w8.cell? ⟨w3.heap.size, 0, none⟩ = some (.int .i64 0) := blk_cell HX8.out 0; have k2 : w8.cell? ⟨w7.heap.size, 0, none⟩ = some (.int .i64 3) := blk_cell HY8.out 0; have k3 : w8.cell? ⟨w5.heap.size, 0, none⟩ = some (.int .u8 8) := blk_cell HF8.out 0; have k4 : w8.cell? ⟨w5.heap.size, 1, none⟩ = some (.int .i64 1) := blk_cell HF8.out 1; clear bx8 hb8)
 have hst := stop_calls HT8.out.ds.start false
 rw [show stopV dTwo false = (0, 0) from rfl] at hst
 refine hst.mono ?_
 clear hst
 rintro e w9 ⟨rfl, ht⟩
 have HE := Lib.hid ((HT8.out.trans ht).ch.below (by rw [World.size_alloc]; have := HS1.out; omega) (Nat.le_refl _) (fun k hk => by simp [Value.ownBlock] at hk) HB2.out)
 clear ht
 go_wp2
 go_ret
 exact ⟨rfl, HE.out⟩
end Go.Proofs.YtddhkfdfhbpblaaGreatDoor.P
namespace Go.Proofs.YtddhkfdfhbpblaaGreatDoor.P
open Go.RowKit Go.Proofs.YtddhkfdfhbpblaaGreatDoorW.PrintWords Go.Proofs.YtddhkfdfhbpblaaGreatDoorW.PrintLast Go.Proofs.YtddhkfdfhbpblaaGreatDoorW.PrintMore
open Go.Proofs.YtddhkfdfhbpblaaGreatDoor
set_option linter.unusedVariables false
attribute [local go_sem] Oper.semAt_some
def kBl (w0 : World) : Kd (List Int) where
 sz := 1
 E := []
 K := fun _ x cs => ∃ A c, cs = [.slice A x.length c] ∧ x.length ≤ c ∧ Kd.C kB w0 A x.length x ∧ ∀ ad, A = some ad → ad.block < w0.heap.size
 M := fun _ _ _ x cs => ∃ A c, cs = [.slice A x.length c] ∧ x.length ≤ c ∧ Kd.C kB w0 A x.length x ∧ ∀ ad, A = some ad → ad.block < w0.heap.size
 K_len := fun h => by obtain ⟨A, c, rfl, _⟩ := h; rfl
 K_one := fun h u hu => by obtain ⟨A, c, rfl, _⟩ := h; rw [List.mem_singleton.1 hu]; rfl
 K_below := fun _ h => h
 K_of_M := fun h => h
 M_mono := fun _ h => h
 M_bound := fun h => h
 M_move := fun _ h => h
 M_lower := fun _ h => h
def cutB : Nat → List Int → List (List Int)
 | 0, _ => []
 | n + 1, l => l.take 512 :: cutB n (l.drop 512)
theorem cutB_succ (n : Nat) (l : List Int) : cutB (n + 1) l = l.take 512 :: cutB n (l.drop 512) := rfl
theorem cutB_len : ∀ (n : Nat) (l : List Int), (cutB n l).length = n
 | 0, _ => rfl
 | n + 1, l => (@List.length_cons _ (l.take 512) (cutB n (l.drop 512))).trans (congrArg Nat.succ (cutB_len n (l.drop 512)))
set_option maxRecDepth 100000 in
theorem cutB_at : ∀ (n : Nat) (l : List Int), n * 512 ≤ l.length → ∀ b ∈ cutB n l, b.length = 512 ∧ ∀ c ∈ b, c ∈ l
 | 0, _, _, b, hb => by simp [cutB] at hb
 | n + 1, l, h, b, hb => by
  rw [cutB_succ] at hb
  rcases List.mem_cons.1 hb with rfl | hb
  ·exact ⟨by rw [List.length_take]; omega, fun c hc => List.mem_of_mem_take hc⟩
  ·have := cutB_at n (l.drop 512) (by rw [List.length_drop]; omega) b hb
   exact ⟨this.1, fun c hc => List.mem_of_mem_drop (this.2 c hc)⟩
set_option maxRecDepth 100000 in
set_option maxHeartbeats 6400000 in
theorem cut_calls (A0 : Option Addr) (c0 : Nat) (l0 : List Int) (w : World) (hr0 : Kd.C kB w A0 l0.length l0) (hc0 : l0.length ≤ c0) (hcm : c0 ≤ 9223372036854775807) (hl : l0.length < 1000000) (hbk : ∀ ad, A0 = some ad → 512 ≤ l0.length → ad.block < w.heap.size) :
  Calls Tryz.prog 11 #[.slice A0 l0.length c0] w fun e w' => ∃ v' b', e = .returned (.tuple #[v', .bool b']) ∧ Kd.R (kBl w) 22 w' w.heap.size (fun k => w.heap.size ≤ k) v' (cutB (l0.length / 512) l0) ∧ Below w.heap.size w w' := by
 have hu := Tryz.underlying22
 have hu24 := Tryz.underlying24
 obtain ⟨N, hN⟩ : ∃ N, l0.length / 512 = N := ⟨_, rfl⟩
 rw [hN]
 have HR0 := Aside0.mk (And.intro hr0 (And.intro hc0 (And.intro hcm hbk)))
 have HL := Lib.hid (And.intro hl hN)
 clear hr0 hc0 hcm hl hbk hN
 go_enter Tryz.func11, Tryz.ntmps11
 go_wp2_with fail
 go_loopg [0, 4] (N) (fun gk v0 v4 wr => ∃ (A : Option Addr) (n c : Nat), v0 = .slice A n c ∧ Aside0 (∃ (m : List Int) (acc : List (List Int)), m.length = n ∧ n ≤ c ∧ c ≤ 9223372036854775807 ∧ n / 512 = gk ∧ n < 1000000 ∧ acc.length + gk = N ∧ acc ++ cutB gk m = cutB N l0 ∧ Kd.C kB w A m.length m ∧ (∀ ad, A = some ad → 512 ≤ n → ad.block < w.heap.size) ∧ Kd.R (kBl w) 22 wr w.heap.size (fun k => w.heap.size ≤ k) v4 acc ∧ Below w.heap.size w wr))
 case atStart => exact ⟨A0, l0.length, c0, rfl, ⟨l0, [], rfl, HR0.out.2.1, HR0.out.2.2.1, HL.out.2, HL.out.1, by simp, rfl, HR0.out.1, HR0.out.2.2.2, Kd.R_nil _ _ _ _ _, Below.refl _ _⟩⟩
 case round =>
  clear HR0
  obtain ⟨A, n, c, rfl, HN⟩ := hrel
  obtain ⟨m, acc, hmn, hnc, hcm, hgk, hnl, hac, hk, hC, hbk, hR, hB⟩ := HN.out
  cases gk with
  | zero =>
   have hlt : decide ((n : Int) < 512) = true := by simp; omega
   have hge : decide ((512 : Int) ≤ (n : Int)) = false := by simp; omega
   have hres : acc = cutB N l0 := by rw [← hk]; simp [cutB]
   rw [hres] at hR
   have HA := Lib.hid hR
   have HB := Lib.hid hB
   clear hmn hnc hcm hgk hnl hac hk hC hbk hR hB hres HN
   go_wp2
   go_ret2
   exact ⟨_, _, rfl, HA.out, HB.out⟩
  | succ kk =>
   have h512 : 512 ≤ n := by omega
   replace hbk : ∀ ad, A = some ad → ad.block < w.heap.size := fun ad e => hbk ad e h512
   have hge : decide ((512 : Int) ≤ (n : Int)) = true := by simp; omega
   have hcq : ((512 : Int) ≤ (c : Int)) = True := eq_true (by omega)
   have hnq : ((512 : Int) ≤ (n : Int)) = True := eq_true (by omega)
   have h1 := Kd.C_take (m := 512) hC (by omega)
   have hb1 : (m.take 512).length = 512 := by rw [List.length_take]; omega
   rw [hb1] at h1
   rw [cutB_succ] at hk
   have HK := Lib.hid (show (acc ++ [m.take 512]) ++ cutB kk (m.drop 512) = cutB N l0 by rw [List.append_assoc]; exact hk)
   have HX := Lib.hid (show ∀ (W : World) (base : Nat) (ok : Nat → Prop), (kBl w).M W base ok (m.take 512) [.slice A 512 c] from fun _ _ _ => ⟨A, c, by rw [hb1], by rw [hb1]; omega, by rw [hb1]; exact h1, hbk⟩)
   have hd := Kd.C_drop (m := 512) (c := c) hC (by omega) (by omega)
   have HD := Lib.hid hd
   have HF := Lib.hid (show m.length = n ∧ n ≤ c ∧ c ≤ 9223372036854775807 ∧ n / 512 = kk + 1 ∧ n < 1000000 ∧ acc.length + (kk + 1) = N ∧ 512 ≤ n from ⟨hmn, hnc, hcm, hgk, hnl, hac, h512⟩)
   have HBK := Lib.hid hbk
   have HO := Lib.hid hR
   have HB := Lib.hid hB
   clear hmn hnc hcm hgk hnl hac hk hC hbk hR hB HN h1 hb1 hd h512
   by_cases hc5 : c = 512
   ·subst hc5
    have hcf := eq_self 512
    go_wp2_with ((with_reducible refine gate_builtin (b := .append) (xs := #[.tmp 8, .tmp 11]) rfl ?_); at_builtin; go_loud (refine Kd.R_append (kBl w) (w0 := w) w.heap.size rfl (.tmp 8) (.tmp 11) 24 22 (.slice none 0 0) 24 rfl hu24 (by kernel_rfl) rfl Nat.one_pos (by omega) _ acc (m.take 512) [.slice A 512 512] (fun k => w.heap.size ≤ k) (fun _ => False) rfl rfl ?aP (fun _ hk => hk.elim) ?aF ?aO ?aB ?aS ?aL ?_; (case aP => exact HX.out _ _ _); (case aB => exact HB.out); (case aF => exact fun k_ hk => Nat.le_trans HB.out.size hk); (case aO => exact HO.out); (case aS => exact HB.out.size); (case aL => have := HF.out; have := HL.out; omega); intro v2 w51 ho hb hg hat; have HO2 := Lib.hid ho; have HBB := Lib.hid hb; clear ho hb hg hat))
    have hd := HD.out
    simp only [eq_self, if_true] at hd
    clear HX HD
    go_roundg kk
    case measure => omega
    have hf := HF.out
    exact ⟨_, _, _, rfl, ⟨m.drop 512, acc ++ [m.take 512], by rw [List.length_drop]; omega, by omega, by omega, by omega, by omega, by rw [List.length_append, List.length_singleton]; omega, HK.out, hd, fun ad e _ => HBK.out ad e, HO2.out, HBB.out⟩⟩
   ·have hcf := eq_false hc5
    go_wp2_with ((with_reducible refine gate_builtin (b := .append) (xs := #[.tmp 8, .tmp 11]) rfl ?_); at_builtin; go_loud (refine Kd.R_append (kBl w) (w0 := w) w.heap.size rfl (.tmp 8) (.tmp 11) 24 22 (.slice none 0 0) 24 rfl hu24 (by kernel_rfl) rfl Nat.one_pos (by omega) _ acc (m.take 512) [.slice A 512 c] (fun k => w.heap.size ≤ k) (fun _ => False) rfl rfl ?aP (fun _ hk => hk.elim) ?aF ?aO ?aB ?aS ?aL ?_; (case aP => exact HX.out _ _ _); (case aB => exact HB.out); (case aF => exact fun k_ hk => Nat.le_trans HB.out.size hk); (case aO => exact HO.out); (case aS => exact HB.out.size); (case aL => have := HF.out; have := HL.out; omega); intro v2 w51 ho hb hg hat; have HO2 := Lib.hid ho; have HBB := Lib.hid hb; clear ho hb hg hat))
    have hd := HD.out
    rw [if_neg hc5] at hd
    clear HX HD
    go_roundg kk
    case measure => omega
    have hf := HF.out
    exact ⟨_, _, _, rfl, ⟨m.drop 512, acc ++ [m.take 512], by rw [List.length_drop]; omega, by omega, by omega, by omega, by omega, by rw [List.length_append, List.length_singleton]; omega, HK.out, hd, by
     intro ad had _
     cases hA : A with
     | none => rw [hA] at had; cases had
     | some a => rw [hA] at had; rw [← Option.some.inj had]; exact HBK.out a hA, HO2.out, HBB.out⟩⟩
end Go.Proofs.YtddhkfdfhbpblaaGreatDoor.P
namespace Go.Proofs.YtddhkfdfhbpblaaGreatDoor.P
open Go.RowKit Go.Proofs.YtddhkfdfhbpblaaGreatDoorW.PrintWords Go.Proofs.YtddhkfdfhbpblaaGreatDoorW.PrintLast Go.Proofs.YtddhkfdfhbpblaaGreatDoorW.PrintMore
attribute [local go_sem] max2_int min2_int max_two min_two max_three min_three max_four min_four   -- for this text's walks alone
set_option linter.unusedVariables false
set_option linter.unusedSimpArgs false
end Go.Proofs.YtddhkfdfhbpblaaGreatDoor.P
namespace Go.Proofs.YtddhkfdfhbpblaaGreatDoor.P
open Go.RowKit Go.Shelf Go.Sort Go.Proofs.YtddhkfdfhbpblaaGreatDoorW.PrintWords Go.Proofs.YtddhkfdfhbpblaaGreatDoorW.PrintLast Go.Proofs.YtddhkfdfhbpblaaGreatDoorW.PrintMore
open Go.Proofs.YtddhkfdfhbpblaaGreatDoor
set_option linter.unusedVariables false
attribute [local go_sem] Oper.semAt_some
end Go.Proofs.YtddhkfdfhbpblaaGreatDoor.P
namespace Go.Proofs.YtddhkfdfhbpblaaGreatDoor.P
open Go.RowKit Go.Proofs.YtddhkfdfhbpblaaGreatDoorW.PrintWords Go.Proofs.YtddhkfdfhbpblaaGreatDoorW.PrintLast Go.Proofs.YtddhkfdfhbpblaaGreatDoorW.PrintMore
open Go.Proofs.YtddhkfdfhbpblaaGreatDoor
set_option linter.unusedVariables false
attribute [local go_sem] Oper.semAt_some
end Go.Proofs.YtddhkfdfhbpblaaGreatDoor.P
namespace Go.Proofs.YtddhkfdfhbpblaaGreatDoor.P
open Go.RowKit Go.Proofs.YtddhkfdfhbpblaaGreatDoorW.PrintWords Go.Proofs.YtddhkfdfhbpblaaGreatDoorW.PrintLast Go.Proofs.YtddhkfdfhbpblaaGreatDoorW.PrintMore
open Go.Proofs.YtddhkfdfhbpblaaGreatDoor
set_option linter.unusedVariables false
section
variable {w w' : World} {v' : Value} {D : Nat} {d : Dc} {vl vg vb : Value}
theorem R_chg {α : Type} {K : Kd α} {e : Nat} {xs : List α} {v : Value} {base : Nat} {ok : Nat → Prop} (h : Kd.R K e w base ok v xs) (hs : DS w D d vl vg vb) (c : Chg w w' D vb v') (ht : ∀ q, q ∈ e :: K.E → q ≠ 73 ∧ 5 ≠ q) : Kd.R K e w' base ok v xs := by
 refine Kd.R_mono (Kd.R_move (Kd.R_bound h) (fun k hk => ?_)) (fun k hk => hk.1)
 obtain ⟨_, _, hlt, q, hq, cells, hc⟩ := hk
 refine c.block k hlt (fun e2 => ?_) (DS_own_ne hs hc (ht q hq).2)
 subst e2
 have := hc.symm.trans hs.blk
 injection this with this
 injection this with _ e2
 exact (ht q hq).1 e2
theorem own_lt {e : Nat} {xs : List Int} {v : Value} {base : Nat} {ok : Nat → Prop} (h : Kd.R kB e w base ok v xs) (k : Nat) (hk : v.ownBlock = some k) : k < w.heap.size ∧ ∃ cells, w.heap[k]? = some (.cells cells e (0, 0)) := by
 obtain ⟨_, inner, ho, _⟩ := h
 obtain ⟨cells, hc⟩ := own_typed ho k hk
 exact ⟨blk_lt hc, cells, hc⟩
theorem RB_chg {xs : List Int} {v : Value} (h : RB w v xs) (hs : DS w D d vl vg vb) (c : Chg w w' D vb v') (hne : ∀ k, v.ownBlock = some k → some k ≠ vb.ownBlock) : RB w' v xs := by
 refine Kd.R_mono (Kd.R_move (Kd.R_tight2 rfl h) (fun k hk => ?_)) (fun k hk => trivial)
 obtain ⟨hlt, cells, hc⟩ := own_lt h k hk.1.symm
 refine c.block k hlt (fun e2 => ?_) (hne k hk.1.symm)
 subst e2
 have := hc.symm.trans hs.blk
 injection this with this
 injection this with _ e2
 exact absurd e2 (by decide)
theorem pair_ne : ∀ q, q ∈ 127 :: kPr.E → q ≠ 73 ∧ 5 ≠ q := by
 intro q hq
 have : q = 127 := by
  rcases List.mem_cons.1 hq with rfl | hq
  ·rfl
  ·exact absurd hq (List.not_mem_nil)
 subst this
 decide
end
structure TW (w1 w : World) (P Q : Nat) (dp dq : Dc) (pl pg pb ql qg qb v : Value) (L : List (List Int)) : Prop where
 dsp : DS w P dp pl pg pb
 dsq : DS w Q dq ql qg qb
 ne : P ≠ Q
 sep : ∀ k, pb.ownBlock = some k → some k ≠ qb.ownBlock
 hp : w1.heap.size ≤ P
 hq : w1.heap.size ≤ Q
 op : ∀ k, pb.ownBlock = some k → w1.heap.size ≤ k
 oq : ∀ k, qb.ownBlock = some k → w1.heap.size ≤ k
 bel : Below w1.heap.size w1 w
 row : Kd.R (kBl w1) 22 w w1.heap.size (fun k => w1.heap.size ≤ k) v L
section
variable {w1 w w' : World} {P Q : Nat} {dp dq d' : Dc} {pl pg pb ql qg qb v pl' pg' pb' : Value} {L : List (List Int)}
theorem TW.below (t : TW w1 w P Q dp dq pl pg pb ql qg qb v L) (hb : Below w.heap.size w w') : TW w1 w' P Q dp dq pl pg pb ql qg qb v L :=
 ⟨t.dsp.below hb, t.dsq.below hb, t.ne, t.sep, t.hp, t.hq, t.op, t.oq, below_step t.bel hb, Kd.R_below t.row hb⟩
theorem TW.step (t : TW w1 w P Q dp dq pl pg pb ql qg qb v L) (k : DT w pb w' P d' pl' pg' pb') : TW w1 w' P Q d' dq pl' pg' pb' ql qg qb v L := by
 have hlt := t.bel.size
 refine ⟨k.ds, ⟨(k.ch.block Q t.dsq.lt t.ne.symm (DS_own_ne t.dsp t.dsq.blk (by decide))).trans t.dsq.blk, R_chg t.dsq.hl t.dsp k.ch pair_ne, R_chg t.dsq.hg t.dsp k.ch pair_ne, RB_chg t.dsq.hb t.dsp k.ch (fun j hj e => t.sep j e.symm hj.symm)⟩, t.ne, fun j hj e => ?_, t.hp, t.hq, fun j hj => ?_, t.oq, k.ch.below hlt t.hp t.op t.bel, R_chg t.row t.dsp k.ch (fun q hq => ?_)⟩
 ·have hq := (own_lt t.dsq.hb j e.symm).1
  rcases k.ch.own with e2 | e2 | ⟨b, e2, hb⟩
  ·exact t.sep j (e2 ▸ hj) e
  ·rw [e2] at hj; cases hj
  ·rw [e2] at hj; injection hj with hj; omega
 ·rcases k.ch.own with e2 | e2 | ⟨b, e2, hb⟩
  ·exact t.op j (e2 ▸ hj)
  ·rw [e2] at hj; cases hj
  ·rw [e2] at hj; injection hj with hj; omega
 ·have : q = 22 := by
   rcases List.mem_cons.1 hq with rfl | hq
   ·rfl
   ·exact absurd hq (List.not_mem_nil)
  subst this
  decide
theorem TW.dg (t : TW w1 w P Q dp dq pl pg pb ql qg qb v L) (hG : Glob w1) (h6 : 6 ≤ w1.heap.size) : DG w P pb := ⟨hG.below t.bel, Nat.le_trans h6 t.hp, fun k hk => Nat.le_trans h6 (t.op k hk)⟩
theorem TW.big (t : TW w1 w P Q dp dq pl pg pb ql qg qb v L) (h6 : 6 ≤ w1.heap.size) : 6 ≤ w.heap.size := Nat.le_trans h6 t.bel.size
theorem TW.at_ {A : Option Addr} {N c : Nat} (t : TW w1 w P Q dp dq pl pg pb ql qg qb (.slice A N c) L) (i : Nat) (hi : i < L.length) : ∃ ad A1 c1, A = some ad ∧ w.cell? (ad.add i) = some (.slice A1 (L.getD i []).length c1) ∧ (L.getD i []).length ≤ c1 ∧ Kd.C kB w A1 (L.getD i []).length (L.getD i []) ∧ (∀ a, A1 = some a → a.block ≠ P ∧ some a.block ≠ pb.ownBlock) ∧ ∀ a, A1 = some a → a.block < w1.heap.size := by
 obtain ⟨hn, _, hC⟩ := Kd.R_reads' t.row
 obtain ⟨ad, cs, e, hs, hr, hc⟩ := ReadsRow.get_ hC [] (i : Int) (by omega) (by omega)
 rw [Int.toNat_natCast] at hr hc
 obtain ⟨A1, c1, rfl, h1, h2, h3⟩ := hr
 have := hc 0 _ rfl
 rw [Nat.add_zero, show i * (kBl w1).sz = i from Nat.mul_one _] at this
 exact ⟨ad, A1, c1, e, this, h1, Kd.C_below h2 t.bel, fun a ha => ⟨by have := h3 a ha; have := t.hp; omega, fun e2 => by have := h3 a ha; have := t.op _ e2.symm; omega⟩, h3⟩
end
abbrev evG (k : Int) (h : HdP) (va vb : Value) : Array Value := #[.int .i64 k, .int .i64 h.f0, .string h.f1, .string h.f2, .int .i64 h.f3, .int .i64 h.f4, .int .i64 h.f5, .int .i64 h.f6, .int .i64 h.f7.f0, .int .i64 h.f7.f1, .string h.f8, .string h.f9, .int .i64 h.f10, .int .i64 h.f11, va, vb]
def kndE : EvV → Int
 | .none => 0
 | .item _ => 1
 | .data _ => 2
 | .fin => 3
def hdE : EvV → HdP
 | .item h => h
 | _ => hd0
theorem EvR.form {w : World} {ev : EvV} {cs : Array Value} (h : EvR w ev cs) : ∃ va vb, cs = evG (kndE ev) (hdE ev) va vb ∧ RP w va (hdE ev).f12 ∧ vb.oneCell' = true := by
 cases ev with
 | none =>
  obtain rfl : cs = evA := h
  exact ⟨_, _, rfl, R_nil0 _ _ _, rfl⟩
 | item x =>
  obtain ⟨v, rfl, hv⟩ := h
  exact ⟨_, _, rfl, hv, rfl⟩
 | data l =>
  obtain ⟨v, rfl, hv⟩ := h
  exact ⟨_, _, rfl, R_nil0 _ _ _, R_one hv⟩
 | fin =>
  obtain rfl : cs = evE := h
  exact ⟨_, _, rfl, R_nil0 _ _ _, rfl⟩
theorem fold_f12 : ∀ (l : List Pr) (h : HdP), (l.foldl stepH h).f12.length ≤ h.f12.length + l.length
 | [], h => Nat.le_refl _
 | q :: t, h => by
  have := fold_f12 t (stepH h q)
  have h2 : (stepH h q).f12.length ≤ h.f12.length + 1 := by
   unfold stepH
   split
   ·rw [sayV_ex]; omega
   ·show (h.f12 ++ [q]).length ≤ _
    rw [List.length_append]; exact Nat.le_refl _
  rw [List.foldl_cons, List.length_cons]
  omega
theorem item_f12 (l : List Int) (r : Raw) (p : Pend) : (itemC l r p).1.f12.length ≤ p.glo.length + p.loc.length := by
 have he : ∀ (x : HdP) (k : Int) (b : Bool), (endV x k b).1.f12.length ≤ x.f12.length := by
  intro x k b
  unfold endV
  split
  ·exact Nat.zero_le _
  ·split
   ·exact Nat.zero_le _
   ·exact Nat.le_refl _
 unfold itemC
 split
 ·exact Nat.zero_le _
 ·split
  ·exact Nat.zero_le _
  ·refine Nat.le_trans (he _ _ _) ?_
   unfold laidH
   rw [cut_f12]
   have := fold_f12 (layP p.glo p.loc) (rawH l r (nameC r p) (if 0 ≤ p.aL then p.link else r.link))
   have h2 := lay_len p.glo p.loc
   have h3 : (rawH l r (nameC r p) (if 0 ≤ p.aL then p.link else r.link)).f12.length = 0 := rfl
   omega
theorem sumB_le (B : Nat) : ∀ (l : List Pr), (∀ x ∈ l, x.f0.size + x.f1.size ≤ B) → sumB l ≤ B * l.length
 | [], _ => Nat.zero_le _
 | q :: t, h => by
  have h1 := sumB_le B t (fun x hx => h x (List.mem_cons_of_mem _ hx))
  have h2 := h q (List.mem_cons_self ..)
  have h3 : sumB (q :: t) = (q.f0.size + q.f1.size) + sumB t := rfl
  rw [List.length_cons, Nat.mul_succ]
  omega
theorem DM.bytes {n : Nat} {d : Dc} (h : DM n d) (hn : n ≤ 29) : ∃ bl bg, over_Bytes.f 1000000 d.p.loc = some bl ∧ over_Bytes.f 1000000 d.p.glo = some bg := by
 have hl : d.p.loc.length ≤ 14848 := by have := h.lo; omega
 have hg : d.p.glo.length ≤ 435000 := by have := h.gl; omega
 have s1 := sumB_le 14848 d.p.loc (fun x hx => by have := h.sz x (List.mem_append_right _ hx); omega)
 have s2 := sumB_le 14848 d.p.glo (fun x hx => by have := h.sz x (List.mem_append_left _ hx); omega)
 exact ⟨_, _, obytes_is _ (by omega) (by omega) _ (by omega), obytes_is _ (by omega) (by omega) _ (by omega)⟩
end Go.Proofs.YtddhkfdfhbpblaaGreatDoor.P
namespace Go.Proofs.YtddhkfdfhbpblaaGreatDoor.P
open Go.RowKit Go.Proofs.YtddhkfdfhbpblaaGreatDoorW.PrintWords Go.Proofs.YtddhkfdfhbpblaaGreatDoorW.PrintLast Go.Proofs.YtddhkfdfhbpblaaGreatDoorW.PrintMore
open Go.Proofs.YtddhkfdfhbpblaaGreatDoor
set_option linter.unusedVariables false
def wtP (p : List UInt8 × List UInt8) : Nat := p.1.length + p.2.length
theorem sum_dd : ∀ l : List Pr, ((l.map dd).map wtP).sum = sumB l
 | [] => rfl
 | x :: t => by
  have h := sum_dd t
  have h1 : sumB (x :: t) = (x.f0.size + x.f1.size) + sumB t := rfl
  rw [h1, List.map_cons, List.map_cons, List.sum_cons, h]
  rfl
theorem lay_bytes (l more : List Pr) : sumB (layP l more) ≤ sumB l + sumB more := by
 have := OverLaw.lay_sum (lt := Op.bytesLess) (emp := List.isEmpty) wtP ((l ++ more).map dd) []
 have h : ((((layP l more)).map dd).map wtP).sum = ((laid (l ++ more)).map wtP).sum := congrArg (fun z => (z.map wtP).sum) (lay_laid l more)
 rw [sum_dd] at h
 unfold laid at h
 rw [← h, sum_dd, sumB_app] at this
 simpa using this
theorem last_bytes : ∀ (l : List Pr), sumB (lastL l) ≤ sumB l
 | [] => Nat.le_refl _
 | p :: t => by
  have := last_bytes t
  have h1 : sumB (p :: t) = (p.f0.size + p.f1.size) + sumB t := rfl
  rw [lastL]
  split
  ·omega
  ·have h2 : sumB (p :: lastL t) = (p.f0.size + p.f1.size) + sumB (lastL t) := rfl
   omega
theorem sum_mkP : ∀ q : List (List UInt8 × List UInt8), sumB (q.map mkP) = (q.map fun p => p.1.length + p.2.length).sum
 | [] => rfl
 | y :: t => by
  have h := sum_mkP t
  have h1 : sumB ((y :: t).map mkP) = ((tx y.1).size + (tx y.2).size) + sumB (t.map mkP) := rfl
  rw [h1, h, tx_size, tx_size, List.map_cons, List.sum_cons]
theorem pay_bytes {l : List Int} {ps : List PrP} (h : payV l = some ps) : sumB ps ≤ l.length := by
 unfold payV at h
 obtain ⟨q, hq, rfl⟩ := Option.map_eq_some_iff.1 h
 have := (recsF_right _ _ _ hq).2
 rw [bytesOf_len] at this
 rw [sum_mkP]
 omega
structure RI (n : Nat) (d : Dc) : Prop where
 dn : DN n d
 bk : d.blocks = (n : Int)
 st : d.st = 0 ∨ d.st = 1 ∨ d.st = 2 ∨ d.st = 3
 fr : d.st = 1 → 0 ≤ d.from_ ∧ d.from_ < n
 s3 : d.st = 3 → 1 ≤ n
 aN : d.p.aN < n
 aL : d.p.aL < n
 xt : 0 ≤ d.p.aX → d.xt < n
 nm : d.p.name.size ≤ 65536
 lk : d.p.link.size ≤ 65536
 lo : sumB d.p.loc ≤ 65536
 bf : d.st ≠ 1 → d.buf = []
 b1 : d.st = 1 → (d.buf.length : Int) + d.left ≤ 65536
 gl : sumB d.p.glo + (if d.st = 1 ∧ d.fl = 103 then d.buf.length else 0) ≤ 512 * n
def lft (d : Dc) : Int := if d.st = 2 then d.left else 0
theorem zero_ri : RI 0 dZero :=
 ⟨zero_keep, rfl, .inl rfl, fun h => (by cases h), fun h => (by cases h), by decide, by decide, fun h => absurd h (by decide), Nat.zero_le _, Nat.zero_le _, Nat.zero_le _, fun _ => rfl, fun h => (by cases h), by decide⟩
theorem RI.held {n : Nat} {d : Dc} (h : RI n d) (hn : n ≤ 29) : 0 ≤ heldV d (sumB d.p.loc : Nat) (sumB d.p.glo : Nat) ∧ heldV d (sumB d.p.loc : Nat) (sumB d.p.glo : Nat) ≤ 4 * 65536 + 512 * n := by
 have hb : d.buf.length ≤ 65536 := by
  by_cases h1 : d.st = 1
  ·have := h.b1 h1
   have := (h.dn.one h1).1
   omega
  ·rw [h.bf h1]; exact Nat.zero_le _
 have hg : sumB d.p.glo ≤ 512 * n := by have := h.gl; omega
 have h1 := h.nm
 have h2 := h.lk
 have h3 := h.lo
 have h5 : (d.st == 5) = false := by rcases h.st with e | e | e | e <;> rw [e] <;> rfl
 have h4 : (d.st == 4) = false := by rcases h.st with e | e | e | e <;> rw [e] <;> rfl
 have e : heldV d (sumB d.p.loc : Nat) (sumB d.p.glo : Nat) = ((d.p.name.size + d.p.link.size + sumB d.p.loc + sumB d.p.glo + d.buf.length : Nat) : Int) := by
  unfold heldV
  rw [h5, h4]
  simp only [Bool.false_eq_true, if_false]
  rw [show ((d.p.name.size : Int) + (d.p.link.size : Int)) = ((d.p.name.size + d.p.link.size : Nat) : Int) by omega, w64n _ (by omega)]
  rw [show (((d.p.name.size + d.p.link.size : Nat) : Int) + ((sumB d.p.loc : Nat) : Int)) = ((d.p.name.size + d.p.link.size + sumB d.p.loc : Nat) : Int) by omega, w64n _ (by omega)]
  rw [show (((d.p.name.size + d.p.link.size + sumB d.p.loc : Nat) : Int) + ((sumB d.p.glo : Nat) : Int)) = ((d.p.name.size + d.p.link.size + sumB d.p.loc + sumB d.p.glo : Nat) : Int) by omega, w64n _ (by omega)]
  rw [show (((d.p.name.size + d.p.link.size + sumB d.p.loc + sumB d.p.glo : Nat) : Int) + (d.buf.length : Int)) = ((d.p.name.size + d.p.link.size + sumB d.p.loc + sumB d.p.glo + d.buf.length : Nat) : Int) by omega, w64n _ (by omega)]
 rw [e]
 omega
def FaultOk (n : Nat) (r : Dc × EvV × Int) : Prop := r.1.fc = r.2.2 ∧ 0 ≤ r.1.fb ∧ r.1.fb < (n : Int) ∧ r.1.blocks = (n : Int)
theorem fail_ok {n : Nat} {d : Dc} {c a : Int} (h0 : 0 ≤ a) (h1 : a < (n : Int)) (hb : d.blocks = (n : Int)) : FaultOk n (failC d c a) := ⟨rfl, h0, h1, hb⟩
theorem ext_right {n : Nat} {d : Dc} (hn : n + 1 ≤ 29) (hm : DM (n + 1) d) (hg0 : d.p.glo.length ≤ 15000 * n) (hbk : d.blocks = ((n + 1 : Nat) : Int)) (hf : 0 ≤ d.from_ ∧ d.from_ < ((n + 1 : Nat) : Int)) (aN : d.p.aN < ((n + 1 : Nat) : Int)) (aL : d.p.aL < ((n + 1 : Nat) : Int)) (xt : 0 ≤ d.p.aX → d.xt < ((n + 1 : Nat) : Int))
  (nm : d.p.name.size ≤ 65536) (lk : d.p.link.size ≤ 65536) (lo : sumB d.p.loc ≤ 65536) (hb : d.buf.length ≤ 65536) (hgl : sumB d.p.glo + (if d.fl = 103 then d.buf.length else 0) ≤ 512 * (n + 1)) :
  ((extC d).2 ≠ 0 → FaultOk (n + 1) ((extC d).1, (StepLaw.Ev.none : EvV), (extC d).2)) ∧ ((extC d).2 = 0 → RI (n + 1) (extC d).1 ∧ (extC d).1.st = 0) := by
 have hk := ext_keep hn hm hg0
 have hg : sumB d.p.glo ≤ 512 * (n + 1) := by omega
 unfold extC at hk ⊢
 by_cases h0 : (extV d.fl d.buf d.from_ d.p).2 ≠ 0
 ·rw [if_pos h0] at hk ⊢
  exact ⟨fun _ => ⟨rfl, hf.1, hf.2, hbk⟩, fun h => absurd h h0⟩
 ·rw [if_neg h0] at hk ⊢
  refine ⟨fun h => absurd rfl h, fun _ => ⟨?_, rfl⟩⟩
  have hgt := getT_size d.buf
  have hz : (extV d.fl d.buf d.from_ d.p).1.aN < ((n + 1 : Nat) : Int) ∧ (extV d.fl d.buf d.from_ d.p).1.aL < ((n + 1 : Nat) : Int) ∧ (0 ≤ (extV d.fl d.buf d.from_ d.p).1.aX → (if d.fl = 76 ∨ d.fl = 75 ∨ d.fl = 103 then d.xt else d.from_) < ((n + 1 : Nat) : Int)) ∧ (extV d.fl d.buf d.from_ d.p).1.name.size ≤ 65536 ∧ (extV d.fl d.buf d.from_ d.p).1.link.size ≤ 65536 ∧ sumB (extV d.fl d.buf d.from_ d.p).1.loc ≤ 65536 ∧ sumB (extV d.fl d.buf d.from_ d.p).1.glo ≤ 512 * (n + 1) := by
   have hx : 0 ≤ d.p.aX → (if d.fl = 76 ∨ d.fl = 75 ∨ d.fl = 103 then d.xt else d.from_) < ((n + 1 : Nat) : Int) := by
    intro h
    split
    ·exact xt h
    ·exact hf.2
   unfold extV at h0 ⊢
   split
   ·split
    ·exact ⟨aN, aL, hx, nm, lk, lo, hg⟩
    ·split
     ·exact ⟨hf.2, aL, hx, by show (getT d.buf).size ≤ _; omega, lk, lo, hg⟩
     ·exact ⟨aN, hf.2, hx, nm, by show (getT d.buf).size ≤ _; omega, lo, hg⟩
   ·rename_i hfl
    cases e : payV d.buf with
    | none => exact ⟨aN, aL, hx, nm, lk, lo, hg⟩
    | some ps =>
     have hp := pay_bytes e
     dsimp only
     split
     ·rename_i h3
      rw [if_pos h3] at hgl
      have := lay_bytes d.p.glo ps
      exact ⟨aN, aL, hx, nm, lk, lo, by show sumB (layP d.p.glo ps) ≤ _; omega⟩
     ·rename_i h3
      have := last_bytes ps
      refine ⟨aN, aL, fun _ => ?_, nm, lk, by show sumB (lastL ps) ≤ _; omega, hg⟩
      rw [if_neg (by omega)]
      exact hf.2
  obtain ⟨z1, z2, z3, z4, z5, z6, z7⟩ := hz
  exact ⟨hk, hbk, .inl rfl, fun h => (by cases h), fun h => (by cases h), z1, z2, z3, z4, z5, z6, fun _ => rfl, fun h => (by cases h), by
   show sumB (extV d.fl d.buf d.from_ d.p).1.glo + (if (0 : Int) = 1 ∧ d.fl = 103 then ([] : List Int).length else 0) ≤ _
   rw [if_neg (fun h => by cases h.1)]
   exact z7⟩
def EvOk (d : Dc) (r : Dc × EvV × Int) : Prop :=
 match r.2.1 with
 | .none => lft d = 0 ∧ lft r.1 = 0
 | .item h => lft d = 0 ∧ lft r.1 = h.f6
 | .data m => 1 ≤ m.length ∧ m.length ≤ 512 ∧ (m.length : Int) ≤ lft d ∧ (m.length < 512 → (m.length : Int) = lft d) ∧ lft r.1 = lft d - m.length
 | .fin => lft d = 0
theorem step_f6n (h : HdP) (q : Pr) (hh : 0 ≤ h.f6) : 0 ≤ (stepH h q).f6 := by
 have hn : ∀ l, 0 ≤ nvalV l := by
  intro l
  unfold nvalV
  split
  ·exact Int.natCast_nonneg _
  ·exact Int.le_refl 0
 unfold stepH
 split
 ·unfold sayV
  repeat' split
  all_goals first | exact hh | exact hn _
 ·exact hh
theorem fold_f6n : ∀ (l : List Pr) (h : HdP), 0 ≤ h.f6 → 0 ≤ (l.foldl stepH h).f6
 | [], h, hh => hh
 | q :: t, h, hh => fold_f6n t _ (step_f6n h q hh)
theorem nums_three {l : List Int} {b : Bool} (h : numsV l b = 0) : (numV l 3).2 = 0 := by
 unfold numsV at h
 by_cases h3 : (numV l 3).2 = 0
 ·exact h3
 ·exfalso
  repeat' split at h
  all_goals first | exact absurd h ‹_› | omega
theorem item_f6n (l : List Int) (r : Raw) (p : Pend) (h : (itemC l r p).2 = 0) : 0 ≤ (itemC l r p).1.f6 := by
 have h0 : 0 ≤ (hd0 : HdP).f6 := by decide
 have he : ∀ (x : HdP) (k : Int) (b : Bool), 0 ≤ x.f6 → 0 ≤ (endV x k b).1.f6 := by
  intro x k b hx
  unfold endV
  split
  ·exact h0
  ·split
   ·exact h0
   ·exact hx
 unfold itemC at h ⊢
 split
 ·exact h0
 ·rename_i hn
  split
  ·exact h0
  ·refine he _ _ _ ?_
   unfold laidH
   have := fold_f6n (layP p.glo p.loc) (rawH l r (nameC r p) (if 0 ≤ p.aL then p.link else r.link)) (numV_nn (l := l) (i := 3) (nums_three (Decidable.byContradiction hn)) (by decide))
   unfold cutL2
   split
   ·exact this
   ·exact this
theorem first_lt {n : Nat} {d : Dc} (aN : d.p.aN < (n : Int)) (aL : d.p.aL < (n : Int)) (xt : 0 ≤ d.p.aX → d.xt < (n : Int)) : firstX d < (n : Int) := by
 have hs : ∀ (f s : Int) (b : Bool), f < (n : Int) → (b = true → s < (n : Int)) → stepB f s b < (n : Int) := by
  intro f s b h1 h2
  unfold stepB
  split
  ·rename_i hb
   split
   ·exact h2 hb
   ·split
    ·exact h2 hb
    ·exact h1
  ·exact h1
 refine hs _ _ _ (hs _ _ _ (hs _ _ _ (by omega) (fun h => ?_)) (fun h => ?_)) (fun h => xt (of_decide_eq_true h))
 ·rw [atOf_pos (of_decide_eq_true h)]; exact aN
 ·rw [atOf_pos (of_decide_eq_true h)]; exact aL
theorem blk_right {n : Nat} {d : Dc} (hn : n + 1 ≤ 29) (h : RI n d) (l : List Int) (hl : l.length = 512) (hb : byteL l = true) :
  ((blkC d l).2.2 ≠ 0 → FaultOk (n + 1) (blkC d l)) ∧ ((blkC d l).2.2 = 0 → EvOk d (blkC d l) ∧ ((blkC d l).2.1 = .fin ∨ RI (n + 1) (blkC d l).1)) := by
 have hk := blk_keep hn h.dn l hl hb
 have hu := h.dn.dm.up
 have hbk : d.blocks + 1 = ((n + 1 : Nat) : Int) := by rw [h.bk]; omega
 have aN : d.p.aN < ((n + 1 : Nat) : Int) := by have := h.aN; omega
 have aL : d.p.aL < ((n + 1 : Nat) : Int) := by have := h.aL; omega
 have xt : 0 ≤ d.p.aX → d.xt < ((n + 1 : Nat) : Int) := fun e => by have := h.xt e; omega
 have gl : sumB d.p.glo ≤ 512 * n := by have := h.gl; omega
 have nm := h.nm
 have lk := h.lk
 have lo := h.lo
 have n5 : ¬ d.st = 5 := by rcases h.st with e | e | e | e <;> omega
 have n4 : ¬ d.st = 4 := by rcases h.st with e | e | e | e <;> omega
 unfold blkC at hk ⊢
 rw [if_neg n5, if_neg n4] at hk ⊢
 by_cases h1 : d.st = 1
 ·rw [if_pos h1] at hk ⊢
  obtain ⟨o1, o2, o3, o4⟩ := h.dn.one h1
  have f1 := h.fr h1
  have b1 := h.b1 h1
  have g1 := h.gl
  have l0 : lft d = 0 := if_neg (by omega)
  by_cases h5 : 512 < d.left
  ·rw [if_pos h5] at hk ⊢
   refine ⟨fun e => absurd rfl e, fun _ => ⟨⟨l0, if_neg (by show ¬ d.st = 2; omega)⟩, .inr ⟨hk, hbk, .inr (.inl h1), fun _ => ⟨f1.1, by show d.from_ < _; omega⟩, fun e => ?_, aN, aL, xt, nm, lk, lo, fun e => absurd h1 e, fun _ => ?_, ?_⟩⟩⟩
   ·have e : d.st = 3 := e
    omega
   ·show ((d.buf ++ l).length : Int) + (d.left - 512) ≤ 65536
    rw [List.length_append]
    omega
   ·show sumB d.p.glo + (if d.st = 1 ∧ d.fl = 103 then (d.buf ++ l).length else 0) ≤ _
    rw [List.length_append]
    split
    ·rename_i h3
     rw [if_pos h3] at g1
     omega
    ·omega
  ·rw [if_neg h5] at hk ⊢
   have hlen : (d.buf ++ l.take d.left.toNat).length = d.buf.length + d.left.toNat := by
    rw [List.length_append, List.length_take]; omega
   obtain ⟨r1, r2⟩ := ext_right (d := { d with blocks := d.blocks + 1, buf := d.buf ++ l.take d.left.toNat, left := 0 }) hn (hu.same rfl rfl (by show (d.buf ++ l.take d.left.toNat).length ≤ _; rw [hlen]; have := h.dn.dm.bu; omega)) h.dn.dm.gl hbk ⟨f1.1, by show d.from_ < _; omega⟩ aN aL xt nm lk lo (by show (d.buf ++ l.take d.left.toNat).length ≤ _; rw [hlen]; omega) (by
    show sumB d.p.glo + (if d.fl = 103 then (d.buf ++ l.take d.left.toNat).length else 0) ≤ _
    rw [hlen]
    split
    ·rename_i h3
     rw [if_pos ⟨h1, h3⟩] at g1
     omega
    ·omega)
   refine ⟨r1, fun e => ?_⟩
   obtain ⟨r3, r4⟩ := r2 e
   exact ⟨⟨l0, if_neg (by rw [r4]; decide)⟩, .inr r3⟩
 ·rw [if_neg h1] at hk ⊢
  have hbf := h.bf h1
  by_cases h2 : d.st = 2
  ·rw [if_pos h2] at hk ⊢
   obtain ⟨o1, o2⟩ := h.dn.two h2
   have l2 : lft d = d.left := if_pos h2
   by_cases h5 : 512 < d.left
   ·rw [if_pos h5] at hk ⊢
    refine ⟨fun e => absurd rfl e, fun _ => ⟨⟨by omega, by omega, by rw [l2, hl]; omega, fun e => by omega, ?_⟩, .inr ⟨hk, hbk, .inr (.inr (.inl h2)), fun e => absurd e h1, fun e => ?_, aN, aL, xt, nm, lk, lo, fun _ => hbf, fun e => absurd e h1, ?_⟩⟩⟩
    ·rw [l2, hl]
     exact if_pos h2
    ·have e : d.st = 3 := e
     omega
    ·rw [if_neg (fun e => h1 e.1)]
     show sumB d.p.glo + 0 ≤ _
     omega
   ·rw [if_neg h5] at hk ⊢
    have hlen : (l.take d.left.toNat).length = d.left.toNat := by rw [List.length_take]; omega
    refine ⟨fun e => absurd rfl e, fun _ => ⟨⟨by rw [hlen]; omega, by rw [hlen]; omega, by rw [hlen, l2]; omega, fun _ => by rw [hlen, l2]; omega, ?_⟩, .inr ⟨hk, hbk, .inl rfl, fun e => (by cases e), fun e => (by cases e), aN, aL, xt, nm, lk, lo, fun _ => hbf, fun e => (by cases e), ?_⟩⟩⟩
    ·rw [l2, hlen]
     show (if (0 : Int) = 2 then (0 : Int) else 0) = _
     rw [if_neg (by decide)]
     omega
    ·rw [if_neg (fun e => by cases e.1)]
     show sumB d.p.glo + 0 ≤ _
     omega
  ·rw [if_neg h2] at hk ⊢
   have l0 : lft d = 0 := if_neg h2
   by_cases h3 : d.st = 3
   ·rw [if_pos h3] at hk ⊢
    have s3 := h.s3 h3
    by_cases hbl : blankV l = false
    ·rw [if_pos hbl] at hk ⊢
     refine ⟨fun _ => fail_ok (by have := h.bk; omega) (by have := h.bk; omega) hbk, fun e => ?_⟩
     have e : (4 : Int) = 0 := e
     omega
    ·rw [if_neg hbl] at hk ⊢
     unfold edC
     by_cases hx : 0 ≤ firstX { d with blocks := d.blocks + 1 }
     ·rw [if_pos hx]
      refine ⟨fun _ => fail_ok hx (first_lt aN aL xt) hbk, fun e => ?_⟩
      have e : (7 : Int) = 0 := e
      omega
     ·rw [if_neg hx]
      exact ⟨fun e => absurd rfl e, fun _ => ⟨l0, .inl rfl⟩⟩
   ·rw [if_neg h3] at hk ⊢
    by_cases hbl : blankV l = true
    ·rw [if_pos hbl] at hk ⊢
     refine ⟨fun e => absurd rfl e, fun _ => ⟨⟨l0, if_neg (by show ¬ (3 : Int) = 2; decide)⟩, .inr ⟨hk, hbk, .inr (.inr (.inr rfl)), fun e => (by cases e), fun _ => by omega, aN, aL, xt, nm, lk, lo, fun _ => hbf, fun e => (by cases e), ?_⟩⟩⟩
     rw [if_neg (fun e => by cases e.1)]
     show sumB d.p.glo + 0 ≤ _
     omega
    ·rw [if_neg hbl] at hk ⊢
     have a0 : (0 : Int) ≤ d.blocks := h.dn.dm.bl.1
     have a1 : d.blocks < ((n + 1 : Nat) : Int) := by have := h.bk; omega
     unfold headC at hk ⊢
     by_cases c1 : (getR l).2 ≠ 0
     ·rw [if_pos c1] at hk ⊢
      exact ⟨fun _ => fail_ok a0 a1 hbk, fun e => absurd e c1⟩
     rw [if_neg c1] at hk ⊢
     by_cases c2 : kindV (getR l).1.flag = 0
     ·rw [if_pos c2] at hk ⊢
      by_cases c3 : (numV l 3).2 ≠ 0
      ·rw [if_pos c3] at hk ⊢
       exact ⟨fun _ => fail_ok a0 a1 hbk, fun e => absurd e c3⟩
      rw [if_neg c3] at hk ⊢
      by_cases c4 : (numV l 3).1 > 65536
      ·rw [if_pos c4] at hk ⊢
       refine ⟨fun _ => fail_ok a0 a1 hbk, fun e => ?_⟩
       have e : (12 : Int) = 0 := e
       omega
      rw [if_neg c4] at hk ⊢
      by_cases c5 : (numV l 3).1 = 0
      ·rw [if_pos c5] at hk ⊢
       obtain ⟨r1, r2⟩ := ext_right (d := { d with blocks := d.blocks + 1, fl := (getR l).1.flag, from_ := d.blocks, left := (numV l 3).1, buf := [] }) hn (hu.same rfl rfl (Nat.zero_le _)) h.dn.dm.gl hbk ⟨a0, a1⟩ aN aL xt nm lk lo (Nat.zero_le _) (by
        show sumB d.p.glo + (if (getR l).1.flag = 103 then ([] : List Int).length else 0) ≤ _
        split
        ·show sumB d.p.glo + 0 ≤ _; omega
        ·omega)
       refine ⟨r1, fun e => ?_⟩
       obtain ⟨r3, r4⟩ := r2 e
       exact ⟨⟨l0, if_neg (by rw [r4]; decide)⟩, .inr r3⟩
      ·rw [if_neg c5] at hk ⊢
       refine ⟨fun e => absurd rfl e, fun _ => ⟨⟨l0, if_neg (by show ¬ (1 : Int) = 2; decide)⟩, .inr ⟨hk, hbk, .inr (.inl rfl), fun _ => ⟨a0, a1⟩, fun e => (by cases e), aN, aL, xt, nm, lk, lo, fun e => absurd rfl e, fun _ => ?_, ?_⟩⟩⟩
       ·show ((([] : List Int).length : Nat) : Int) + (numV l 3).1 ≤ 65536
        simp
        omega
       ·show sumB d.p.glo + (if (1 : Int) = 1 ∧ (getR l).1.flag = 103 then ([] : List Int).length else 0) ≤ _
        split
        ·show sumB d.p.glo + 0 ≤ _; omega
        ·omega
     ·rw [if_neg c2] at hk ⊢
      by_cases c6 : (itemC l (getR l).1 d.p).2 ≠ 0
      ·have c6' : (itemC l (getR l).1 { d with blocks := d.blocks + 1 }.p).2 ≠ 0 := c6
       rw [if_pos c6'] at hk ⊢
       exact ⟨fun _ => fail_ok a0 a1 hbk, fun e => absurd e c6⟩
      ·have c6' : ¬ (itemC l (getR l).1 { d with blocks := d.blocks + 1 }.p).2 ≠ 0 := c6
       rw [if_neg c6'] at hk ⊢
       have f0 := item_f6n l (getR l).1 d.p (by omega)
       refine ⟨fun e => absurd rfl e, fun _ => ⟨⟨l0, ?_⟩, .inr ⟨hk, hbk, ?_, fun e => ?_, fun e => ?_, by show (-1 : Int) < _; omega, by show (-1 : Int) < _; omega, fun e => absurd e (by show ¬ (0 : Int) ≤ -1; decide), Nat.zero_le _, Nat.zero_le _, Nat.zero_le _, fun _ => hbf, fun e => ?_, ?_⟩⟩⟩
       ·show (if (if (itemC l (getR l).1 d.p).1.f6 > 0 then (2 : Int) else 0) = 2 then (itemC l (getR l).1 d.p).1.f6 else 0) = (itemC l (getR l).1 d.p).1.f6
        by_cases h6 : (itemC l (getR l).1 d.p).1.f6 > 0
        ·rw [if_pos h6, if_pos rfl]
        ·rw [if_neg h6, if_neg (by decide)]
         omega
       ·show (if (itemC l (getR l).1 d.p).1.f6 > 0 then (2 : Int) else 0) = 0 ∨ (if (itemC l (getR l).1 d.p).1.f6 > 0 then (2 : Int) else 0) = 1 ∨ (if (itemC l (getR l).1 d.p).1.f6 > 0 then (2 : Int) else 0) = 2 ∨ (if (itemC l (getR l).1 d.p).1.f6 > 0 then (2 : Int) else 0) = 3
        split
        ·exact .inr (.inr (.inl rfl))
        ·exact .inl rfl
       ·have e : (if (itemC l (getR l).1 d.p).1.f6 > 0 then (2 : Int) else 0) = 1 := e
        split at e <;> cases e
       ·have e : (if (itemC l (getR l).1 d.p).1.f6 > 0 then (2 : Int) else 0) = 3 := e
        split at e <;> cases e
       ·have e : (if (itemC l (getR l).1 d.p).1.f6 > 0 then (2 : Int) else 0) = 1 := e
        split at e <;> cases e
       ·have hne : ¬ ((if (itemC l (getR l).1 d.p).1.f6 > 0 then (2 : Int) else 0) = 1 ∧ d.fl = 103) := by
         intro e
         have e := e.1
         split at e <;> cases e
        show sumB d.p.glo + (if (if (itemC l (getR l).1 d.p).1.f6 > 0 then (2 : Int) else 0) = 1 ∧ d.fl = 103 then d.buf.length else 0) ≤ _
        rw [if_neg hne]
        omega
end Go.Proofs.YtddhkfdfhbpblaaGreatDoor.P
namespace Go.Proofs.YtddhkfdfhbpblaaGreatDoor.P
open Go.RowKit Go.Proofs.YtddhkfdfhbpblaaGreatDoorW.PrintWords Go.Proofs.YtddhkfdfhbpblaaGreatDoorW.PrintLast Go.Proofs.YtddhkfdfhbpblaaGreatDoorW.PrintMore
set_option linter.unusedVariables false
def keyOK (p : S127) : Bool := match oakumref07_Which.f 20 p.f0 with | some v => decide (v < 0) | none => false
def nameL (s : ByteArray) : Bool := !s.data.toList.isEmpty && (decide (s.size ≤ 65536) && cleanL s.data.toList)
def slashL (s : ByteArray) : Bool := s.data.toList.getLast? == some 47
def firstBad : List Bool → Nat → Int
  | [], _ => 0
  | b :: t, n => if b then firstBad t (n + 1) else n
def okL (a0_0 : Int) (a0_1 : ByteArray) (a0_2 : ByteArray) (a0_3 : Int) (a0_4 : Int) (a0_5 : Int) (a0_6 : Int) (a0_7 : Int) (a0_8 : Int) (a0_9 : ByteArray) (a0_10 : ByteArray) (a0_11 : Int) (a0_12 : Int) (e : Bool) : List Bool :=
  [decide (1 ≤ a0_0) && decide (a0_0 ≤ 7), nameL a0_1 && !((a0_0 == 1) && slashL a0_1),
   ((a0_0 == 2) || (a0_0 == 3)) && nameL a0_2 || (!((a0_0 == 2) || (a0_0 == 3)) && a0_2.toList.isEmpty),
   decide (0 ≤ a0_3), decide (0 ≤ a0_4), decide (0 ≤ a0_5), (a0_6 == 0) || (decide (0 < a0_6) && (a0_0 == 1)),
   decide (0 ≤ a0_8) && decide (a0_8 ≤ 999999999), a0_9.toList.isEmpty || nameL a0_9, a0_10.toList.isEmpty || nameL a0_10,
   (a0_11 == 0) || (decide (0 < a0_11) && ((a0_0 == 4) || (a0_0 == 5))), (a0_12 == 0) || (decide (0 < a0_12) && ((a0_0 == 4) || (a0_0 == 5))), e]
theorem empty_iff (s : ByteArray) : s.toList = ([] : List UInt8) ↔ s.data.toList.isEmpty = true := by
  rw [Lib.toList_data]
  cases s.data.toList <;> simp
theorem getLast_bt (s : ByteArray) (h : s.data.toList ≠ []) : s.data.toList.getLast? = some (s.data.toList.getD (s.size - 1) 0) := by
  rw [List.getLast?_eq_getElem?, data_length, List.getD_eq_getElem?_getD]
  have : s.size - 1 < s.data.toList.length := by
    have := List.length_pos_iff.2 h
    rw [data_length] at this ⊢
    omega
  rw [List.getElem?_eq_getElem this]
  rfl
end Go.Proofs.YtddhkfdfhbpblaaGreatDoor.P
namespace Go.Proofs.YtddhkfdfhbpblaaGreatDoor.P
open Go.RowKit Go.Proofs.YtddhkfdfhbpblaaGreatDoorW.PrintWords Go.Proofs.YtddhkfdfhbpblaaGreatDoorW.PrintLast Go.Proofs.YtddhkfdfhbpblaaGreatDoorW.PrintMore
attribute [local go_sem] max2_int min2_int max_two min_two max_three min_three max_four min_four   -- for this text's walks alone
set_option linter.unusedVariables false
set_option linter.unusedSimpArgs false
def stringslite_HasSuffix.f (a0 : ByteArray) (a1 : ByteArray) : Option (Bool) := if (a0.size : Int) ≥ (a1.size : Int) then (if 0 ≤ (wrap64 ((a0.size : Int) - (a1.size : Int))) then (if (wrap64 ((a0.size : Int) - (a1.size : Int))) ≤ (a0.size : Int) then (some ((a0.extract ((wrap64 ((a0.size : Int) - (a1.size : Int))) : Int).toNat a0.size).toList == a1.toList)) else (none)) else (none)) else (some false)
set_option maxHeartbeats 8000000 in
set_option maxRecDepth 100000 in
theorem stringslite_HasSuffix.calls (a0 : ByteArray) (a1 : ByteArray) (r : Bool) (w : World) (h : stringslite_HasSuffix.f a0 a1 = some r) :
  Calls Tryz.prog 83 #[.string a0, .string a1] w fun e w' => e = .returned (.bool r) ∧ Drawn0 w w' := by
 have H : (if (a0.size : Int) ≥ (a1.size : Int) then (if 0 ≤ (wrap64 ((a0.size : Int) - (a1.size : Int))) then (if (wrap64 ((a0.size : Int) - (a1.size : Int))) ≤ (a0.size : Int) then (some ((a0.extract ((wrap64 ((a0.size : Int) - (a1.size : Int))) : Int).toNat a0.size).toList == a1.toList)) else (none)) else (none)) else (some false)) = some r := h
 clear h
 by_cases c3 : (a0.size : Int) ≥ (a1.size : Int)
 ·rw [if_pos c3] at H
  have c3b0 : decide ((a1.size : Int) ≤ (a0.size : Int)) = true := decide_eq_true c3
  have c3b1 : decide (a1.size ≤ a0.size) = true := decide_eq_true (Int.ofNat_le.mp c3)
  clear c3
  obtain ⟨ji4, hji4⟩ : ∃ j_ : Int, (wrap64 ((a0.size : Int) - (a1.size : Int))) = j_ := ⟨_, rfl⟩
  replace H : (if 0 ≤ (ji4) then (if (ji4) ≤ (a0.size : Int) then (some ((a0.extract ((ji4) : Int).toNat a0.size).toList == a1.toList)) else (none)) else (none)) = some r := by first | (rw [hji4] at H; exact H) | (simp only [hji4] at H ⊢; exact H)
  have hji4w : (IntKind.i64.wrap ((a0.size : Int) - (a1.size : Int))) = ji4 := (i64_w _).trans hji4
  by_cases c5 : 0 ≤ (ji4)
  ·rw [if_pos c5] at H
   have c5b0 := eq_true c5
   have c5b1 : decide (0 ≤ (ji4)) = true := decide_eq_true c5
   clear c5
   by_cases c6 : (ji4) ≤ (a0.size : Int)
   ·rw [if_pos c6] at H
    have c6b0 := eq_true c6
    have c6b1 : decide ((ji4) ≤ (a0.size : Int)) = true := decide_eq_true c6
    clear c6
    obtain rfl := Option.some.inj H
    go_enter Tryz.func83, Tryz.ntmps83
    go_wp2
    go_ret
    exact ⟨by first | rfl | (simp; done) | (simp only [← hji4] <;> (first | rfl | simp)) | (simp [*]; done) | (simp [nil_bne]; done) | (simp [*, nil_bne]; done), Zd⟩
   ·rw [if_neg c6] at H
    exact absurd H (by simp)
  ·rw [if_neg c5] at H
   exact absurd H (by simp)
 ·rw [if_neg c3] at H
  have c3b0 : decide ((a1.size : Int) ≤ (a0.size : Int)) = false := decide_eq_false c3
  have c3b1 : decide (a1.size ≤ a0.size) = false := decide_eq_false (fun h => c3 (Int.ofNat_le.mpr h))
  clear c3
  obtain rfl := Option.some.inj H
  go_enter Tryz.func83, Tryz.ntmps83
  go_wp2
  go_ret
  exact ⟨Zr, Zd⟩
end Go.Proofs.YtddhkfdfhbpblaaGreatDoor.P
namespace Go.Proofs.YtddhkfdfhbpblaaGreatDoor.P
open Go.RowKit Go.Proofs.YtddhkfdfhbpblaaGreatDoorW.PrintWords Go.Proofs.YtddhkfdfhbpblaaGreatDoorW.PrintLast Go.Proofs.YtddhkfdfhbpblaaGreatDoorW.PrintMore
attribute [local go_sem] max2_int min2_int max_two min_two max_three min_three max_four min_four   -- for this text's walks alone
set_option linter.unusedVariables false
set_option linter.unusedSimpArgs false
def strings_HasSuffix.f (a0 : ByteArray) (a1 : ByteArray) : Option (Bool) := (stringslite_HasSuffix.f a0 a1).bind fun t204 => (some t204)
set_option maxHeartbeats 8000000 in
set_option maxRecDepth 100000 in
theorem strings_HasSuffix.calls (a0 : ByteArray) (a1 : ByteArray) (r : Bool) (w : World) (h : strings_HasSuffix.f a0 a1 = some r) :
  Calls Tryz.prog 51 #[.string a0, .string a1] w fun e w' => e = .returned (.bool r) ∧ Drawn0 w w' := by
 have H : ((stringslite_HasSuffix.f a0 a1).bind fun t204 => (some t204)) = some r := h
 clear h
 obtain ⟨t204, A30, H⟩ := Zk H
 have A3 := Aside0.mk A30
 clear A30
 obtain rfl := Option.some.inj H
 go_enter Tryz.func51, Tryz.ntmps51
 go_wp2_with (first | ((with_reducible refine gate_callee (f := 83) rfl ?_); refine ZL 7 Tryz.func83 #[.string a0, .string a1] ?_; (with_reducible refine (stringslite_HasSuffix.calls a0 a1 t204 _ A3.out).mono ?_); rintro e w' ⟨rfl, ⟨nd, rfl⟩⟩; refine ⟨_, rfl, ?_⟩))
 go_ret
 exact ⟨Zr, Zd⟩
end Go.Proofs.YtddhkfdfhbpblaaGreatDoor.P
namespace Go.Proofs.YtddhkfdfhbpblaaGreatDoor.P
open Go.RowKit Go.Proofs.YtddhkfdfhbpblaaGreatDoorW.PrintWords Go.Proofs.YtddhkfdfhbpblaaGreatDoorW.PrintLast Go.Proofs.YtddhkfdfhbpblaaGreatDoorW.PrintMore
attribute [local go_sem] max2_int min2_int max_two min_two max_three min_three max_four min_four   -- for this text's walks alone
set_option linter.unusedVariables false
set_option linter.unusedSimpArgs false
def item_Flag.f (a0 : Int) : Option (Int) := if a0 < 1 then (some 0) else (if a0 > 7 then (some 0) else (some ((48 + ((wrap64 (a0 - 1)) % 256)) % 256)))
set_option maxHeartbeats 8000000 in
set_option maxRecDepth 100000 in
theorem item_Flag.calls (a0 : Int) (r : Int) (w : World) (h : item_Flag.f a0 = some r) :
  Calls Tryz.prog 49 #[.int .i64 a0] w fun e w' => e = .returned (.int .u8 r) ∧ Drawn0 w w' := by
 have H : (if a0 < 1 then (some 0) else (if a0 > 7 then (some 0) else (some ((48 + ((wrap64 (a0 - 1)) % 256)) % 256)))) = some r := h
 clear h
 by_cases c2 : a0 < 1
 ·rw [if_pos c2] at H
  have c2b0 : decide (a0 < 1) = true := decide_eq_true c2
  clear c2
  obtain rfl := Option.some.inj H
  go_enter Tryz.func49, Tryz.ntmps49
  go_wp2
  go_ret
  exact ⟨Zr, Zd⟩
 ·rw [if_neg c2] at H
  have c2b0 : decide (a0 < 1) = false := decide_eq_false c2
  clear c2
  by_cases c3 : a0 > 7
  ·rw [if_pos c3] at H
   have c3b0 : decide (7 < a0) = true := decide_eq_true c3
   clear c3
   obtain rfl := Option.some.inj H
   go_enter Tryz.func49, Tryz.ntmps49
   go_wp2
   go_ret
   exact ⟨Zr, Zd⟩
  ·rw [if_neg c3] at H
   have c3b0 : decide (7 < a0) = false := decide_eq_false c3
   clear c3
   obtain rfl := Option.some.inj H
   go_enter Tryz.func49, Tryz.ntmps49
   go_wp2
   go_ret
   exact ⟨Zr, Zd⟩
end Go.Proofs.YtddhkfdfhbpblaaGreatDoor.P
namespace Go.Proofs.YtddhkfdfhbpblaaGreatDoor.P
open Go.RowKit Go.Proofs.YtddhkfdfhbpblaaGreatDoorW.PrintWords Go.Proofs.YtddhkfdfhbpblaaGreatDoorW.PrintLast Go.Proofs.YtddhkfdfhbpblaaGreatDoorW.PrintMore
attribute [local go_sem] max2_int min2_int max_two min_two max_three min_three max_four min_four   -- for this text's walks alone
set_option linter.unusedVariables false
set_option linter.unusedSimpArgs false
def item_named.f (a0 : ByteArray) : Option (Bool) := if a0.toList = ([] : List UInt8) then (some false) else (if (a0.size : Int) ≤ 65536 then ((text_Clean.f a0).bind fun t375 => (some t375)) else (some false))
set_option maxHeartbeats 8000000 in
set_option maxRecDepth 100000 in
theorem item_named.calls (a0 : ByteArray) (r : Bool) (w : World) (h : item_named.f a0 = some r) :
  Calls Tryz.prog 50 #[.string a0] w fun e w' => e = .returned (.bool r) ∧ Drawn0 w w' := by
 have H : (if a0.toList = ([] : List UInt8) then (some false) else (if (a0.size : Int) ≤ 65536 then ((text_Clean.f a0).bind fun t375 => (some t375)) else (some false))) = some r := h
 clear h
 by_cases c2 : a0.toList = ([] : List UInt8)
 ·rw [if_pos c2] at H
  have c2b0 : (a0.toList == ([] : List UInt8)) = true := beq_iff_eq.mpr c2
  have c2b1 : (a0.toList != ([] : List UInt8)) = false := bne_eq_false_iff_eq.mpr c2
  clear c2
  obtain rfl := Option.some.inj H
  go_enter Tryz.func50, Tryz.ntmps50
  go_wp2
  go_ret
  exact ⟨Zr, Zd⟩
 ·rw [if_neg c2] at H
  have c2b0 : (a0.toList == ([] : List UInt8)) = false := beq_eq_false_iff_ne.mpr c2
  have c2b1 : (a0.toList != ([] : List UInt8)) = true := bne_iff_ne.mpr c2
  by_cases c3 : (a0.size : Int) ≤ 65536
  ·rw [if_pos c3] at H
   have c3b0 : decide ((a0.size : Int) ≤ 65536) = true := decide_eq_true c3
   have c3b1 : decide (a0.size ≤ 65536) = true := decide_eq_true (by omega)
   clear c3
   obtain ⟨t375, A40, H⟩ := Zk H
   have A4 := Aside0.mk A40
   clear A40
   obtain rfl := Option.some.inj H
   go_enter Tryz.func50, Tryz.ntmps50
   go_wp2_with (first | (go_at_call 82; (with_reducible refine (text_Clean.calls a0 t375 _ A4.out).mono ?_); rintro e w' ⟨rfl, ⟨nd, rfl⟩⟩))
   go_ret
   exact ⟨Zr, Zd⟩
  ·rw [if_neg c3] at H
   have c3b0 : decide ((a0.size : Int) ≤ 65536) = false := decide_eq_false c3
   have c3b1 : decide (a0.size ≤ 65536) = false := decide_eq_false (by omega)
   clear c3
   obtain rfl := Option.some.inj H
   go_enter Tryz.func50, Tryz.ntmps50
   go_wp2
   go_ret
   exact ⟨Zr, Zd⟩
end Go.Proofs.YtddhkfdfhbpblaaGreatDoor.P
namespace Go.Proofs.YtddhkfdfhbpblaaGreatDoor.P
open Go.RowKit Go.Proofs.YtddhkfdfhbpblaaGreatDoorW.PrintWords Go.Proofs.YtddhkfdfhbpblaaGreatDoorW.PrintLast Go.Proofs.YtddhkfdfhbpblaaGreatDoorW.PrintMore
attribute [local go_sem] max2_int min2_int max_two min_two max_three min_three max_four min_four   -- for this text's walks alone
set_option linter.unusedVariables false
set_option linter.unusedSimpArgs false
def item_link.f (a0_0 : Int) (a0_1 : ByteArray) (a0_2 : ByteArray) (a0_3 : Int) (a0_4 : Int) (a0_5 : Int) (a0_6 : Int) (a0_7 : Int) (a0_8 : Int) (a0_9 : ByteArray) (a0_10 : ByteArray) (a0_11 : Int) (a0_12 : Int) (l0_13 : List (S127)) : Option (Bool) := if a0_0 = 2 then ((item_named.f a0_2).bind fun t377 => (some t377)) else (if a0_0 = 3 then ((item_named.f a0_2).bind fun t378 => (some t378)) else (some (a0_2.toList == ([] : List UInt8))))
set_option maxHeartbeats 8000000 in
set_option maxRecDepth 100000 in
theorem item_link.calls (a0_0 : Int) (a0_1 : ByteArray) (a0_2 : ByteArray) (a0_3 : Int) (a0_4 : Int) (a0_5 : Int) (a0_6 : Int) (a0_7 : Int) (a0_8 : Int) (a0_9 : ByteArray) (a0_10 : ByteArray) (a0_11 : Int) (a0_12 : Int) (A0_13 : Option Addr) (c0_13 : Nat) (l0_13 : List (S127)) (r : Bool) (w : World) (hr0_13 : Kd.C k127 w A0_13 l0_13.length l0_13) (hc0_13 : l0_13.length ≤ c0_13) (h : item_link.f a0_0 a0_1 a0_2 a0_3 a0_4 a0_5 a0_6 a0_7 a0_8 a0_9 a0_10 a0_11 a0_12 l0_13 = some r) :
  Calls Tryz.prog 52 #[.agg #[.int .i64 a0_0, .string a0_1, .string a0_2, .int .i64 a0_3, .int .i64 a0_4, .int .i64 a0_5, .int .i64 a0_6, .int .i64 a0_7, .int .i64 a0_8, .string a0_9, .string a0_10, .int .i64 a0_11, .int .i64 a0_12, .slice A0_13 l0_13.length c0_13]] w fun e w' => e = .returned (.bool r) ∧ Below w.heap.size w w' := by
 have hu33 := Tryz.underlying33
 have HR0_13 := Aside0.mk hr0_13
 have HC0_13 := Aside0.mk hc0_13
 clear hr0_13 hc0_13
 have HB := Aside0.mk (Below.refl w.heap.size w)
 have H : (if a0_0 = 2 then ((item_named.f a0_2).bind fun t377 => (some t377)) else (if a0_0 = 3 then ((item_named.f a0_2).bind fun t378 => (some t378)) else (some (a0_2.toList == ([] : List UInt8))))) = some r := h
 clear h
 by_cases c2 : a0_0 = 2
 ·rw [if_pos c2] at H
  have c2b0 : (a0_0 == 2) = true := beq_iff_eq.mpr c2
  have c2b1 : (a0_0 != 2) = false := bne_eq_false_iff_eq.mpr c2
  clear c2
  obtain ⟨t377, A30, H⟩ := Zk H
  have A3 := Aside0.mk A30
  clear A30
  obtain rfl := Option.some.inj H
  go_enter Tryz.func52, Tryz.ntmps52
  go_wp2_with (first | ((with_reducible refine gate_dst (N := 1) rfl ?_); refine Zbx (N := 1) (cs := #[.int .i64 a0_0, .string a0_1, .string a0_2, .int .i64 a0_3, .int .i64 a0_4, .int .i64 a0_5, .int .i64 a0_6, .int .i64 a0_7, .int .i64 a0_8, .string a0_9, .string a0_10, .int .i64 a0_11, .int .i64 a0_12, .slice A0_13 l0_13.length c0_13]) (t := 33) HB ?_; intro gb376 w4 HB BK376 GE376; have GW376 := GE376; have hcz5 := Zc14 BK376.out; have hfz5 := blk_frozen BK376.out) | ((with_reducible refine gate_callee (f := 50) rfl ?_); refine ZL 13 Tryz.func50 #[.string a0_2] ?_; (with_reducible refine (item_named.calls a0_2 t377 _ A3.out).mono ?_); rintro e w' ⟨rfl, ⟨nd, rfl⟩⟩; refine ⟨_, rfl, ?_⟩))
  go_ret
  exact ⟨Ze, Zhg HB GE376⟩
 ·rw [if_neg c2] at H
  have c2b0 : (a0_0 == 2) = false := beq_eq_false_iff_ne.mpr c2
  have c2b1 : (a0_0 != 2) = true := bne_iff_ne.mpr c2
  by_cases c6 : a0_0 = 3
  ·rw [if_pos c6] at H
   have c6b0 : (a0_0 == 3) = true := beq_iff_eq.mpr c6
   have c6b1 : (a0_0 != 3) = false := bne_eq_false_iff_eq.mpr c6
   clear c6
   obtain ⟨t378, A70, H⟩ := Zk H
   have A7 := Aside0.mk A70
   clear A70
   obtain rfl := Option.some.inj H
   go_enter Tryz.func52, Tryz.ntmps52
   go_wp2_with (first | ((with_reducible refine gate_dst (N := 1) rfl ?_); refine Zbx (N := 1) (cs := #[.int .i64 a0_0, .string a0_1, .string a0_2, .int .i64 a0_3, .int .i64 a0_4, .int .i64 a0_5, .int .i64 a0_6, .int .i64 a0_7, .int .i64 a0_8, .string a0_9, .string a0_10, .int .i64 a0_11, .int .i64 a0_12, .slice A0_13 l0_13.length c0_13]) (t := 33) HB ?_; intro gb376 w8 HB BK376 GE376; have GW376 := GE376; have hcz9 := Zc14 BK376.out; have hfz9 := blk_frozen BK376.out) | ((with_reducible refine gate_callee (f := 50) rfl ?_); refine ZL 13 Tryz.func50 #[.string a0_2] ?_; (with_reducible refine (item_named.calls a0_2 t378 _ A7.out).mono ?_); rintro e w' ⟨rfl, ⟨nd, rfl⟩⟩; refine ⟨_, rfl, ?_⟩))
   go_ret
   exact ⟨Ze, Zhg HB GE376⟩
  ·rw [if_neg c6] at H
   have c6b0 : (a0_0 == 3) = false := beq_eq_false_iff_ne.mpr c6
   have c6b1 : (a0_0 != 3) = true := bne_iff_ne.mpr c6
   obtain rfl := Option.some.inj H
   go_enter Tryz.func52, Tryz.ntmps52
   go_wp2_with (first | ((with_reducible refine gate_dst (N := 1) rfl ?_); refine Zbx (N := 1) (cs := #[.int .i64 a0_0, .string a0_1, .string a0_2, .int .i64 a0_3, .int .i64 a0_4, .int .i64 a0_5, .int .i64 a0_6, .int .i64 a0_7, .int .i64 a0_8, .string a0_9, .string a0_10, .int .i64 a0_11, .int .i64 a0_12, .slice A0_13 l0_13.length c0_13]) (t := 33) HB ?_; intro gb376 w10 HB BK376 GE376; have GW376 := GE376; have hcz11 := Zc14 BK376.out; have hfz11 := blk_frozen BK376.out))
   go_ret
   exact ⟨Ze, Zhg HB GE376⟩
end Go.Proofs.YtddhkfdfhbpblaaGreatDoor.P
namespace Go.Proofs.YtddhkfdfhbpblaaGreatDoor.P
open Go.RowKit Go.Proofs.YtddhkfdfhbpblaaGreatDoorW.PrintWords Go.Proofs.YtddhkfdfhbpblaaGreatDoorW.PrintLast Go.Proofs.YtddhkfdfhbpblaaGreatDoorW.PrintMore
attribute [local go_sem] max2_int min2_int max_two min_two max_three min_three max_four min_four   -- for this text's walks alone
set_option linter.unusedVariables false
set_option linter.unusedSimpArgs false
def dec_Right.f (a0_0 : Int) (a0_1 : Int) : Option (Bool) := if a0_1 ≥ 0 then (some (decide (a0_1 < 1000000000))) else (some false)
set_option maxHeartbeats 8000000 in
set_option maxRecDepth 100000 in
theorem dec_Right.calls (a0_0 : Int) (a0_1 : Int) (r : Bool) (w : World) (h : dec_Right.f a0_0 a0_1 = some r) :
  Calls Tryz.prog 53 #[.agg #[.int .i64 a0_0, .int .i64 a0_1]] w fun e w' => e = .returned (.bool r) ∧ Below w.heap.size w w' := by
 have hu30 := Tryz.underlying30
 have HB := Aside0.mk (Below.refl w.heap.size w)
 have H : (if a0_1 ≥ 0 then (some (decide (a0_1 < 1000000000))) else (some false)) = some r := h
 clear h
 by_cases c2 : a0_1 ≥ 0
 ·rw [if_pos c2] at H
  have c2b0 : decide (0 ≤ a0_1) = true := decide_eq_true c2
  clear c2
  obtain rfl := Option.some.inj H
  go_enter Tryz.func53, Tryz.ntmps53
  go_wp2_with (first | ((with_reducible refine gate_dst (N := 1) rfl ?_); refine Zbx (N := 1) (cs := #[.int .i64 a0_0, .int .i64 a0_1]) (t := 30) HB ?_; intro gb379 w3 HB BK379 GE379; have GW379 := GE379; have hcz4 := Zc2 BK379.out; have hfz4 := blk_frozen BK379.out))
  go_ret
  exact ⟨Ze, Zhg HB GE379⟩
 ·rw [if_neg c2] at H
  have c2b0 : decide (0 ≤ a0_1) = false := decide_eq_false c2
  clear c2
  obtain rfl := Option.some.inj H
  go_enter Tryz.func53, Tryz.ntmps53
  go_wp2_with (first | ((with_reducible refine gate_dst (N := 1) rfl ?_); refine Zbx (N := 1) (cs := #[.int .i64 a0_0, .int .i64 a0_1]) (t := 30) HB ?_; intro gb379 w5 HB BK379 GE379; have GW379 := GE379; have hcz6 := Zc2 BK379.out; have hfz6 := blk_frozen BK379.out))
  go_ret
  exact ⟨Ze, Zhg HB GE379⟩
end Go.Proofs.YtddhkfdfhbpblaaGreatDoor.P
namespace Go.Proofs.YtddhkfdfhbpblaaGreatDoor.P
open Go.RowKit Go.Proofs.YtddhkfdfhbpblaaGreatDoorW.PrintWords Go.Proofs.YtddhkfdfhbpblaaGreatDoorW.PrintLast Go.Proofs.YtddhkfdfhbpblaaGreatDoorW.PrintMore
attribute [local go_sem] max2_int min2_int max_two min_two max_three min_three max_four min_four   -- for this text's walks alone
set_option linter.unusedVariables false
set_option linter.unusedSimpArgs false
def item_plain.f (a0 : ByteArray) : Option (Bool) := if (a0.size : Int) ≤ 65536 then ((text_Clean.f a0).bind fun t380 => (some t380)) else (some false)
set_option maxHeartbeats 8000000 in
set_option maxRecDepth 100000 in
theorem item_plain.calls (a0 : ByteArray) (r : Bool) (w : World) (h : item_plain.f a0 = some r) :
  Calls Tryz.prog 54 #[.string a0] w fun e w' => e = .returned (.bool r) ∧ Drawn0 w w' := by
 have H : (if (a0.size : Int) ≤ 65536 then ((text_Clean.f a0).bind fun t380 => (some t380)) else (some false)) = some r := h
 clear h
 by_cases c2 : (a0.size : Int) ≤ 65536
 ·rw [if_pos c2] at H
  have c2b0 : decide ((a0.size : Int) ≤ 65536) = true := decide_eq_true c2
  have c2b1 : decide (a0.size ≤ 65536) = true := decide_eq_true (by omega)
  clear c2
  obtain ⟨t380, A30, H⟩ := Zk H
  have A3 := Aside0.mk A30
  clear A30
  obtain rfl := Option.some.inj H
  go_enter Tryz.func54, Tryz.ntmps54
  go_wp2_with (first | (go_at_call 82; (with_reducible refine (text_Clean.calls a0 t380 _ A3.out).mono ?_); rintro e w' ⟨rfl, ⟨nd, rfl⟩⟩))
  go_ret
  exact ⟨Zr, Zd⟩
 ·rw [if_neg c2] at H
  have c2b0 : decide ((a0.size : Int) ≤ 65536) = false := decide_eq_false c2
  have c2b1 : decide (a0.size ≤ 65536) = false := decide_eq_false (by omega)
  clear c2
  obtain rfl := Option.some.inj H
  go_enter Tryz.func54, Tryz.ntmps54
  go_wp2
  go_ret
  exact ⟨Zr, Zd⟩
end Go.Proofs.YtddhkfdfhbpblaaGreatDoor.P
namespace Go.Proofs.YtddhkfdfhbpblaaGreatDoor.P
open Go.RowKit Go.Proofs.YtddhkfdfhbpblaaGreatDoorW.PrintWords Go.Proofs.YtddhkfdfhbpblaaGreatDoorW.PrintLast Go.Proofs.YtddhkfdfhbpblaaGreatDoorW.PrintMore
attribute [local go_sem] max2_int min2_int max_two min_two max_three min_three max_four min_four   -- for this text's walks alone
set_option linter.unusedVariables false
set_option linter.unusedSimpArgs false
def item_device.f (a0_0 : Int) (a0_1 : ByteArray) (a0_2 : ByteArray) (a0_3 : Int) (a0_4 : Int) (a0_5 : Int) (a0_6 : Int) (a0_7 : Int) (a0_8 : Int) (a0_9 : ByteArray) (a0_10 : ByteArray) (a0_11 : Int) (a0_12 : Int) (l0_13 : List (S127)) (a1 : Int) : Option (Bool) := if a1 = 0 then (some true) else (if a1 > 0 then (if a0_0 = 4 then (some true) else (some (a0_0 == 5))) else (some false))
set_option maxHeartbeats 8000000 in
set_option maxRecDepth 100000 in
theorem item_device.calls (a0_0 : Int) (a0_1 : ByteArray) (a0_2 : ByteArray) (a0_3 : Int) (a0_4 : Int) (a0_5 : Int) (a0_6 : Int) (a0_7 : Int) (a0_8 : Int) (a0_9 : ByteArray) (a0_10 : ByteArray) (a0_11 : Int) (a0_12 : Int) (A0_13 : Option Addr) (c0_13 : Nat) (l0_13 : List (S127)) (a1 : Int) (r : Bool) (w : World) (hr0_13 : Kd.C k127 w A0_13 l0_13.length l0_13) (hc0_13 : l0_13.length ≤ c0_13) (h : item_device.f a0_0 a0_1 a0_2 a0_3 a0_4 a0_5 a0_6 a0_7 a0_8 a0_9 a0_10 a0_11 a0_12 l0_13 a1 = some r) :
  Calls Tryz.prog 55 #[.agg #[.int .i64 a0_0, .string a0_1, .string a0_2, .int .i64 a0_3, .int .i64 a0_4, .int .i64 a0_5, .int .i64 a0_6, .int .i64 a0_7, .int .i64 a0_8, .string a0_9, .string a0_10, .int .i64 a0_11, .int .i64 a0_12, .slice A0_13 l0_13.length c0_13], .int .i64 a1] w fun e w' => e = .returned (.bool r) ∧ Below w.heap.size w w' := by
 have hu33 := Tryz.underlying33
 have HR0_13 := Aside0.mk hr0_13
 have HC0_13 := Aside0.mk hc0_13
 clear hr0_13 hc0_13
 have HB := Aside0.mk (Below.refl w.heap.size w)
 have H : (if a1 = 0 then (some true) else (if a1 > 0 then (if a0_0 = 4 then (some true) else (some (a0_0 == 5))) else (some false))) = some r := h
 clear h
 by_cases c3 : a1 = 0
 ·rw [if_pos c3] at H
  have c3b0 : (a1 == 0) = true := beq_iff_eq.mpr c3
  have c3b1 : (a1 != 0) = false := bne_eq_false_iff_eq.mpr c3
  clear c3
  obtain rfl := Option.some.inj H
  go_enter Tryz.func55, Tryz.ntmps55
  go_wp2_with (first | ((with_reducible refine gate_dst (N := 2) rfl ?_); refine Zbx (N := 2) (cs := #[.int .i64 a0_0, .string a0_1, .string a0_2, .int .i64 a0_3, .int .i64 a0_4, .int .i64 a0_5, .int .i64 a0_6, .int .i64 a0_7, .int .i64 a0_8, .string a0_9, .string a0_10, .int .i64 a0_11, .int .i64 a0_12, .slice A0_13 l0_13.length c0_13]) (t := 33) HB ?_; intro gb381 w4 HB BK381 GE381; have GW381 := GE381))
  go_ret
  exact ⟨Ze, Zhg HB GE381⟩
 ·rw [if_neg c3] at H
  have c3b0 : (a1 == 0) = false := beq_eq_false_iff_ne.mpr c3
  have c3b1 : (a1 != 0) = true := bne_iff_ne.mpr c3
  by_cases c5 : a1 > 0
  ·rw [if_pos c5] at H
   have c5b0 : decide (0 < a1) = true := decide_eq_true c5
   clear c5
   by_cases c6 : a0_0 = 4
   ·rw [if_pos c6] at H
    have c6b0 : (a0_0 == 4) = true := beq_iff_eq.mpr c6
    have c6b1 : (a0_0 != 4) = false := bne_eq_false_iff_eq.mpr c6
    clear c6
    obtain rfl := Option.some.inj H
    go_enter Tryz.func55, Tryz.ntmps55
    go_wp2_with (first | ((with_reducible refine gate_dst (N := 2) rfl ?_); refine Zbx (N := 2) (cs := #[.int .i64 a0_0, .string a0_1, .string a0_2, .int .i64 a0_3, .int .i64 a0_4, .int .i64 a0_5, .int .i64 a0_6, .int .i64 a0_7, .int .i64 a0_8, .string a0_9, .string a0_10, .int .i64 a0_11, .int .i64 a0_12, .slice A0_13 l0_13.length c0_13]) (t := 33) HB ?_; intro gb381 w7 HB BK381 GE381; have GW381 := GE381; have hcz8 := Zc14 BK381.out; have hfz8 := blk_frozen BK381.out))
    go_ret
    exact ⟨Ze, Zhg HB GE381⟩
   ·rw [if_neg c6] at H
    have c6b0 : (a0_0 == 4) = false := beq_eq_false_iff_ne.mpr c6
    have c6b1 : (a0_0 != 4) = true := bne_iff_ne.mpr c6
    obtain rfl := Option.some.inj H
    go_enter Tryz.func55, Tryz.ntmps55
    go_wp2_with (first | ((with_reducible refine gate_dst (N := 2) rfl ?_); refine Zbx (N := 2) (cs := #[.int .i64 a0_0, .string a0_1, .string a0_2, .int .i64 a0_3, .int .i64 a0_4, .int .i64 a0_5, .int .i64 a0_6, .int .i64 a0_7, .int .i64 a0_8, .string a0_9, .string a0_10, .int .i64 a0_11, .int .i64 a0_12, .slice A0_13 l0_13.length c0_13]) (t := 33) HB ?_; intro gb381 w9 HB BK381 GE381; have GW381 := GE381; have hcz10 := Zc14 BK381.out; have hfz10 := blk_frozen BK381.out))
    go_ret
    exact ⟨Ze, Zhg HB GE381⟩
  ·rw [if_neg c5] at H
   have c5b0 : decide (0 < a1) = false := decide_eq_false c5
   clear c5
   obtain rfl := Option.some.inj H
   go_enter Tryz.func55, Tryz.ntmps55
   go_wp2_with (first | ((with_reducible refine gate_dst (N := 2) rfl ?_); refine Zbx (N := 2) (cs := #[.int .i64 a0_0, .string a0_1, .string a0_2, .int .i64 a0_3, .int .i64 a0_4, .int .i64 a0_5, .int .i64 a0_6, .int .i64 a0_7, .int .i64 a0_8, .string a0_9, .string a0_10, .int .i64 a0_11, .int .i64 a0_12, .slice A0_13 l0_13.length c0_13]) (t := 33) HB ?_; intro gb381 w11 HB BK381 GE381; have GW381 := GE381))
   go_ret
   exact ⟨Ze, Zhg HB GE381⟩
end Go.Proofs.YtddhkfdfhbpblaaGreatDoor.P
namespace Go.Proofs.YtddhkfdfhbpblaaGreatDoor.P
open Go.RowKit Go.Proofs.YtddhkfdfhbpblaaGreatDoorW.PrintWords
theorem cells14 {w : World} {g : Nat} {t : TypeId} {v0 v1 v2 v3 v4 v5 v6 v7 v8 v9 v10 v11 v12 v13 : Value} (h : w.heap[g]? = some (.cells #[v0, v1, v2, v3, v4, v5, v6, v7, v8, v9, v10, v11, v12, v13] t (0, 0))) : w.cell? ⟨g, 0, none⟩ = some v0 ∧ w.cell? ⟨g, 1, none⟩ = some v1 ∧ w.cell? ⟨g, 2, none⟩ = some v2 ∧ w.cell? ⟨g, 3, none⟩ = some v3 ∧ w.cell? ⟨g, 4, none⟩ = some v4 ∧ w.cell? ⟨g, 5, none⟩ = some v5 ∧ w.cell? ⟨g, 6, none⟩ = some v6 ∧ w.cell? ⟨g, 7, none⟩ = some v7 ∧ w.cell? ⟨g, 8, none⟩ = some v8 ∧ w.cell? ⟨g, 9, none⟩ = some v9 ∧ w.cell? ⟨g, 10, none⟩ = some v10 ∧ w.cell? ⟨g, 11, none⟩ = some v11 ∧ w.cell? ⟨g, 12, none⟩ = some v12 ∧ w.cell? ⟨g, 13, none⟩ = some v13 :=
 ⟨blk_cell h 0, blk_cell h 1, blk_cell h 2, blk_cell h 3, blk_cell h 4, blk_cell h 5, blk_cell h 6, blk_cell h 7, blk_cell h 8, blk_cell h 9, blk_cell h 10, blk_cell h 11, blk_cell h 12, blk_cell h 13⟩
end Go.Proofs.YtddhkfdfhbpblaaGreatDoor.P
namespace Go.Proofs.YtddhkfdfhbpblaaGreatDoor.P
open Go.RowKit Go.Proofs.YtddhkfdfhbpblaaGreatDoorW.PrintWords Go.Proofs.YtddhkfdfhbpblaaGreatDoorW.PrintLast Go.Proofs.YtddhkfdfhbpblaaGreatDoorW.PrintMore
theorem wext_list (s : ByteArray) (a b : Nat) : (s.extract a b).data.toList = (s.data.toList.take b).drop a := by
 have := extract_tx s.data.toList a b
 rw [tx_of] at this
 rw [this, tx_data]
theorem windex_neg : ∀ l : List UInt8, Lib.indexByte l 0 < 0 ↔ cleanL l = true
 | [] => by simp [Lib.indexByte, cleanL]
 | c :: t => by
  have ih := windex_neg t
  have hg := Lib.indexByte_ge t 0
  have e : Lib.indexByte (c :: t) 0 = if (c == 0) = true then 0 else if (Lib.indexByte t 0 == -1) = true then -1 else Lib.indexByte t 0 + 1 := rfl
  have e2 : cleanL (c :: t) = ((c != 0) && cleanL t) := rfl
  rw [e, e2]
  by_cases hc : c = 0
  ·subst hc
   simp
  ·rw [if_neg (by simp [hc]), show (c != 0) = true by simp [hc], Bool.true_and, ← ih]
   by_cases h : Lib.indexByte t 0 = -1
   ·rw [if_pos (by simp [h]), h]
   ·rw [if_neg (by simp [h])]
    omega
theorem windex_clean (l : List UInt8) : decide (Lib.indexByte l 0 < 0) = cleanL l := by
 have h := windex_neg l
 cases hc : cleanL l with
 | true => exact decide_eq_true (h.2 hc)
 | false => exact decide_eq_false fun hn => by rw [h.1 hn] at hc; cases hc
theorem clean_text (s : ByteArray) : text_Clean.f s = some (cleanL s.data.toList) := by
 unfold text_Clean.f strings_IndexByte.f
 rw [Option.bind_some, show (0 : Int).toNat.toUInt8 = 0 from rfl, windex_clean]
theorem named_f (s : ByteArray) : item_named.f s = some (nameL s) := by
 unfold item_named.f nameL
 rw [clean_text]
 by_cases c1 : s.toList = ([] : List UInt8)
 ·rw [if_pos c1, (empty_iff s).1 c1]; rfl
 ·rw [if_neg c1, show s.data.toList.isEmpty = false from Bool.eq_false_iff.2 fun h => c1 ((empty_iff s).2 h)]
  by_cases c2 : s.size ≤ 65536
  ·rw [if_pos (by omega), decide_eq_true c2]; rfl
  ·rw [if_neg (by omega), decide_eq_false c2]; rfl
theorem plain_f (s : ByteArray) : item_plain.f s = some (s.data.toList.isEmpty || nameL s) := by
 unfold item_plain.f nameL
 rw [clean_text]
 cases he : s.data.toList.isEmpty with
 | true =>
  have h0 : s.data.toList = [] := List.isEmpty_iff.1 he
  have hz : s.size = 0 := by rw [← data_length, h0]; rfl
  rw [if_pos (by omega), h0]; rfl
 | false =>
  by_cases c2 : s.size ≤ 65536
  ·rw [if_pos (by omega), decide_eq_true c2]; rfl
  ·rw [if_neg (by omega), decide_eq_false c2]; rfl
theorem suffix_f (s : ByteArray) (h : s.size ≤ 2097152) : strings_HasSuffix.f s (⟨#[47]⟩ : ByteArray) = some (slashL s) := by
 unfold strings_HasSuffix.f stringslite_HasSuffix.f slashL
 rw [show ((⟨#[47]⟩ : ByteArray).size : Int) = 1 from rfl, show (⟨#[47]⟩ : ByteArray).toList = [47] by rw [Lib.toList_data]]
 by_cases c : s.data.toList = []
 ·have hz : s.size = 0 := by rw [← data_length, c]; rfl
  rw [if_neg (by omega), c]
  rfl
 ·have hlen : 0 < s.size := by rw [← data_length]; exact List.length_pos_iff.2 c
  rw [getLast_bt s c, w64 _ (by omega) (by omega), if_pos (by omega), if_pos (by omega), if_pos (by omega), Option.bind_some, Lib.toList_data, wext_list]
  have hi : s.size - 1 < s.data.toList.length := by rw [data_length]; omega
  rw [show ((s.size : Int) - 1).toNat = s.size - 1 by omega, ← data_length, List.take_length, data_length, List.drop_eq_getElem_cons hi, List.drop_eq_nil_of_le (by rw [data_length]; omega), List.getD_eq_getElem?_getD, List.getElem?_eq_getElem hi]
  congr 1
  generalize s.data.toList[s.size - 1] = d
  rw [Bool.eq_iff_iff]
  simp
theorem flag_f (a : Int) : ∃ t, item_Flag.f a = some t ∧ (t = 0 ↔ (decide (1 ≤ a) && decide (a ≤ 7)) = false) := by
 unfold item_Flag.f
 by_cases h1 : a < 1
 ·rw [if_pos h1]
  exact ⟨0, rfl, by simp; omega⟩
 ·rw [if_neg h1]
  by_cases h7 : a > 7
  ·rw [if_pos h7]
   exact ⟨0, rfl, by simp; omega⟩
  ·rw [if_neg h7, w64 _ (by omega) (by omega)]
   refine ⟨_, rfl, ?_⟩
   rw [decide_eq_true (by omega), decide_eq_true (by omega)]
   simp
   omega
theorem link_f (a0_0 : Int) (a0_1 : ByteArray) (a0_2 : ByteArray) (a0_3 : Int) (a0_4 : Int) (a0_5 : Int) (a0_6 : Int) (a0_7 : Int) (a0_8 : Int) (a0_9 : ByteArray) (a0_10 : ByteArray) (a0_11 : Int) (a0_12 : Int) (l0_13 : List S127) : item_link.f a0_0 a0_1 a0_2 a0_3 a0_4 a0_5 a0_6 a0_7 a0_8 a0_9 a0_10 a0_11 a0_12 l0_13 = some (((a0_0 == 2) || (a0_0 == 3)) && nameL a0_2 || (!((a0_0 == 2) || (a0_0 == 3)) && a0_2.toList.isEmpty)) := by
 unfold item_link.f
 rw [named_f]
 by_cases h2 : a0_0 = 2
 ·rw [if_pos h2, h2]; simp
 ·rw [if_neg h2]
  by_cases h3 : a0_0 = 3
  ·rw [if_pos h3, h3]; simp
  ·rw [if_neg h3, show (a0_0 == 2) = false by simp [h2], show (a0_0 == 3) = false by simp [h3]]
   simp only [Bool.or_self, Bool.false_and, Bool.not_false, Bool.true_and, Bool.false_or]
   cases a0_2.toList <;> rfl
theorem device_f (a0_0 : Int) (a0_1 : ByteArray) (a0_2 : ByteArray) (a0_3 : Int) (a0_4 : Int) (a0_5 : Int) (a0_6 : Int) (a0_7 : Int) (a0_8 : Int) (a0_9 : ByteArray) (a0_10 : ByteArray) (a0_11 : Int) (a0_12 : Int) (l0_13 : List S127) (n : Int) : item_device.f a0_0 a0_1 a0_2 a0_3 a0_4 a0_5 a0_6 a0_7 a0_8 a0_9 a0_10 a0_11 a0_12 l0_13 n = some ((n == 0) || (decide (0 < n) && ((a0_0 == 4) || (a0_0 == 5)))) := by
 unfold item_device.f
 by_cases h0 : n = 0
 ·rw [if_pos h0, h0]; rfl
 ·rw [if_neg h0, show (n == 0) = false by simp [h0]]
  by_cases h1 : n > 0
  ·rw [if_pos h1, decide_eq_true (show 0 < n from h1)]
   by_cases h4 : a0_0 = 4
   ·rw [if_pos h4, h4]; rfl
   ·rw [if_neg h4, show (a0_0 == 4) = false by simp [h4]]; rfl
  ·rw [if_neg h1, decide_eq_false (show ¬ 0 < n from h1)]; rfl
theorem dtime_f (a b : Int) : dec_Right.f a b = some (decide (0 ≤ b) && decide (b ≤ 999999999)) := by
 unfold dec_Right.f
 by_cases c : b ≥ 0
 ·rw [if_pos c, decide_eq_true (show 0 ≤ b from c), Bool.true_and]
  congr 1
  rw [decide_eq_decide]
  omega
 ·rw [if_neg c, decide_eq_false (show ¬ 0 ≤ b from c)]; rfl
def RelH (w wr : World) (hd : Array Value) : Prop := wr.heap[w.heap.size]? = some (.cells hd 33 (0, 0)) ∧ Below w.heap.size w wr
theorem RelH.drew {w wr : World} {hd : Array Value} (h : RelH w wr hd) (n : Nat) : RelH w (wr.drewN n) hd := ⟨h.1, pw_below_drewN h.2 n⟩
theorem RelH.call {w wr w2 : World} {hd : Array Value} (h : RelH w wr hd) (hb : Below wr.heap.size wr w2) : RelH w w2 hd := ⟨blk_below h.1 hb, below_step h.2 hb⟩
theorem RelH.draw {w wr w2 : World} {hd : Array Value} (h : RelH w wr hd) (hb : Drawn0 wr w2) : RelH w w2 hd := by
 obtain ⟨n, rfl⟩ := hb.out
 exact h.drew n
set_option maxRecDepth 100000 in
set_option maxHeartbeats 12800000 in
theorem iwrong_walk (k : Nat) (a0_0 : Int) (a0_1 : ByteArray) (a0_2 : ByteArray) (a0_3 : Int) (a0_4 : Int) (a0_5 : Int) (a0_6 : Int) (a0_7 : Int) (a0_8 : Int) (a0_9 : ByteArray) (a0_10 : ByteArray) (a0_11 : Int) (a0_12 : Int) (A0_13 : Option Addr) (c0_13 : Nat) (l0_13 : List S127) (fl : Int) (n1 sl iq1 m7 g7 : Bool) (y1 y2 y3 y4 y5 y6 y7 y8 y9 y10 y11 y12 y13 : Bool) (w : World) (hG : Glob w)
  (hfl : item_Flag.f a0_0 = some fl) (hf1 : (fl == 0) = !y1) (hn1 : item_named.f a0_1 = some n1) (hsl : strings_HasSuffix.f a0_1 (⟨#[47]⟩ : ByteArray) = some sl) (hiq : (a0_0 == 1) = iq1) (hiq2 : (a0_0 != 1) = !iq1) (hy2 : (n1 && !(iq1 && sl)) = y2)
  (hy3 : item_link.f a0_0 a0_1 a0_2 a0_3 a0_4 a0_5 a0_6 a0_7 a0_8 a0_9 a0_10 a0_11 a0_12 l0_13 = some y3) (hm4 : decide (a0_3 < 0) = !y4) (hm5 : decide (a0_4 < 0) = !y5) (hm6 : decide (a0_5 < 0) = !y6)
  (hm7 : decide (a0_6 < 0) = m7) (hg7 : decide (0 < a0_6) = g7) (hy7 : (!m7 && !(g7 && !iq1)) = y7)
  (hy8 : dec_Right.f a0_7 a0_8 = some y8) (hy9 : item_plain.f a0_9 = some y9) (hy10 : item_plain.f a0_10 = some y10) (hy11 : item_device.f a0_0 a0_1 a0_2 a0_3 a0_4 a0_5 a0_6 a0_7 a0_8 a0_9 a0_10 a0_11 a0_12 l0_13 a0_11 = some y11) (hy12 : item_device.f a0_0 a0_1 a0_2 a0_3 a0_4 a0_5 a0_6 a0_7 a0_8 a0_9 a0_10 a0_11 a0_12 l0_13 a0_12 = some y12)
  (hy13 : item_extra.f k l0_13 = some y13) (hr0 : Kd.C k127 w A0_13 l0_13.length l0_13) (hc0 : l0_13.length ≤ c0_13) :
  Calls Tryz.prog 22 #[.agg #[.int .i64 a0_0, .string a0_1, .string a0_2, .int .i64 a0_3, .int .i64 a0_4, .int .i64 a0_5, .int .i64 a0_6, .int .i64 a0_7, .int .i64 a0_8, .string a0_9, .string a0_10, .int .i64 a0_11, .int .i64 a0_12, .slice A0_13 l0_13.length c0_13]] w fun e w' => e = .returned (.int .i64 (firstBad [y1, y2, y3, y4, y5, y6, y7, y8, y9, y10, y11, y12, y13] 1)) ∧ Below w.heap.size w w' := by
 have hu26 := Tryz.underlying33
 have hu23 := Tryz.underlying30
 have Qfl := Lib.hid hfl
 have Qn1 := Lib.hid hn1
 have Qsl := Lib.hid hsl
 have Qy2 := Lib.hid hy2
 have Qy3 := Lib.hid hy3
 have Qy7 := Lib.hid hy7
 have Qy8 := Lib.hid hy8
 have Qy9 := Lib.hid hy9
 have Qy10 := Lib.hid hy10
 have Qy11 := Lib.hid hy11
 have Qy12 := Lib.hid hy12
 have Qy13 := Lib.hid hy13
 have Qr0 := Lib.hid hr0
 have Qc0 := Lib.hid hc0
 have QG := Lib.hid hG
 clear hfl hn1 hsl hy2 hy3 hy7 hy8 hy9 hy10 hy11 hy12 hy13 hr0 hc0 hG
 go_enter Tryz.func22, Tryz.ntmps22
 have HR0 := Lib.hid (show RelH w (w.alloc (.cells #[.int .i64 a0_0, .string a0_1, .string a0_2, .int .i64 a0_3, .int .i64 a0_4, .int .i64 a0_5, .int .i64 a0_6, .int .i64 a0_7, .int .i64 a0_8, .string a0_9, .string a0_10, .int .i64 a0_11, .int .i64 a0_12, .slice A0_13 l0_13.length c0_13] 33)) #[.int .i64 a0_0, .string a0_1, .string a0_2, .int .i64 a0_3, .int .i64 a0_4, .int .i64 a0_5, .int .i64 a0_6, .int .i64 a0_7, .int .i64 a0_8, .string a0_9, .string a0_10, .int .i64 a0_11, .int .i64 a0_12, .slice A0_13 l0_13.length c0_13] from ⟨blk_new w _, below_alloc (Below.refl _ _) _⟩)
 go_wp2_with fail
 refine (item_Flag.calls _ _ _ Qfl.out).mono ?_
 rintro e w1 ⟨rfl, hb⟩
 have HR1 := Lib.hid (HR0.out.draw hb)
 clear hb
 obtain ⟨c0, c1, c2, c3, c4, c5, c6, c7, c8, c9, c10, c11, c12, c13⟩ := cells14 HR1.out.1
 cases y1 with
 | false =>
  go_wp2
  go_ret
  exact ⟨rfl, HR1.out.2⟩
 | true =>
  go_wp2_with fail
  refine (item_named.calls _ _ _ Qn1.out).mono ?_
  rintro e w2 ⟨rfl, hb⟩
  have HR2 := Lib.hid (HR1.out.draw hb)
  clear hb c0 c1 c2 c3 c4 c5 c6 c7 c8 c9 c10 c11 c12 c13
  obtain ⟨c0, c1, c2, c3, c4, c5, c6, c7, c8, c9, c10, c11, c12, c13⟩ := cells14 HR2.out.1
  cases n1 with
  | false =>
   obtain rfl : false = y2 := Qy2.out
   go_wp2
   go_ret
   exact ⟨rfl, HR2.out.2⟩
  | true =>
   cases iq1 with
   | false =>
    obtain rfl : true = y2 := Qy2.out
    go_wp2_with fail
    refine (item_link.calls a0_0 a0_1 a0_2 a0_3 a0_4 a0_5 a0_6 a0_7 a0_8 a0_9 a0_10 a0_11 a0_12 A0_13 c0_13 l0_13 _ _ (Kd.C_below Qr0.out HR2.out.2) Qc0.out Qy3.out).mono ?_
    rintro e w4 ⟨rfl, hb⟩
    have HR4 := Lib.hid (HR2.out.call hb)
    clear hb c0 c1 c2 c3 c4 c5 c6 c7 c8 c9 c10 c11 c12 c13
    obtain ⟨c0, c1, c2, c3, c4, c5, c6, c7, c8, c9, c10, c11, c12, c13⟩ := cells14 HR4.out.1
    cases y3 with
    | false =>
     go_wp2
     go_ret
     exact ⟨rfl, HR4.out.2⟩
    | true =>
     cases y4 with
     | false =>
      go_wp2
      go_ret
      exact ⟨rfl, HR4.out.2⟩
     | true =>
      cases y5 with
      | false =>
       go_wp2
       go_ret
       exact ⟨rfl, HR4.out.2⟩
      | true =>
       cases y6 with
       | false =>
        go_wp2
        go_ret
        exact ⟨rfl, HR4.out.2⟩
       | true =>
        cases m7 with
        | true =>
         obtain rfl : false = y7 := Qy7.out
         go_wp2
         go_ret
         exact ⟨rfl, HR4.out.2⟩
        | false =>
         cases g7 with
         | true =>
          obtain rfl : false = y7 := Qy7.out
          go_wp2
          go_ret
          exact ⟨rfl, HR4.out.2⟩
         | false =>
          obtain rfl : true = y7 := Qy7.out
          go_wp2_with fail
          refine (dec_Right.calls _ _ _ _ Qy8.out).mono ?_
          rintro e w5 ⟨rfl, hb⟩
          have HR5 := Lib.hid (HR4.out.call hb)
          clear hb c0 c1 c2 c3 c4 c5 c6 c7 c8 c9 c10 c11 c12 c13
          obtain ⟨c0, c1, c2, c3, c4, c5, c6, c7, c8, c9, c10, c11, c12, c13⟩ := cells14 HR5.out.1
          cases y8 with
          | false =>
           go_wp2
           go_ret
           exact ⟨rfl, HR5.out.2⟩
          | true =>
           go_wp2_with fail
           refine (item_plain.calls _ _ _ Qy9.out).mono ?_
           rintro e w6 ⟨rfl, hb⟩
           have HR6 := Lib.hid (HR5.out.draw hb)
           clear hb c0 c1 c2 c3 c4 c5 c6 c7 c8 c9 c10 c11 c12 c13
           obtain ⟨c0, c1, c2, c3, c4, c5, c6, c7, c8, c9, c10, c11, c12, c13⟩ := cells14 HR6.out.1
           cases y9 with
           | false =>
            go_wp2
            go_ret
            exact ⟨rfl, HR6.out.2⟩
           | true =>
            go_wp2_with fail
            refine (item_plain.calls _ _ _ Qy10.out).mono ?_
            rintro e w7 ⟨rfl, hb⟩
            have HR7 := Lib.hid (HR6.out.draw hb)
            clear hb c0 c1 c2 c3 c4 c5 c6 c7 c8 c9 c10 c11 c12 c13
            obtain ⟨c0, c1, c2, c3, c4, c5, c6, c7, c8, c9, c10, c11, c12, c13⟩ := cells14 HR7.out.1
            cases y10 with
            | false =>
             go_wp2
             go_ret
             exact ⟨rfl, HR7.out.2⟩
            | true =>
             go_wp2_with fail
             refine (item_device.calls a0_0 a0_1 a0_2 a0_3 a0_4 a0_5 a0_6 a0_7 a0_8 a0_9 a0_10 a0_11 a0_12 A0_13 c0_13 l0_13 a0_11 _ _ (Kd.C_below Qr0.out HR7.out.2) Qc0.out Qy11.out).mono ?_
             rintro e w8 ⟨rfl, hb⟩
             have HR8 := Lib.hid (HR7.out.call hb)
             clear hb c0 c1 c2 c3 c4 c5 c6 c7 c8 c9 c10 c11 c12 c13
             obtain ⟨c0, c1, c2, c3, c4, c5, c6, c7, c8, c9, c10, c11, c12, c13⟩ := cells14 HR8.out.1
             cases y11 with
             | false =>
              go_wp2
              go_ret
              exact ⟨rfl, HR8.out.2⟩
             | true =>
              go_wp2_with fail
              refine (item_device.calls a0_0 a0_1 a0_2 a0_3 a0_4 a0_5 a0_6 a0_7 a0_8 a0_9 a0_10 a0_11 a0_12 A0_13 c0_13 l0_13 a0_12 _ _ (Kd.C_below Qr0.out HR8.out.2) Qc0.out Qy12.out).mono ?_
              rintro e w9 ⟨rfl, hb⟩
              have HR9 := Lib.hid (HR8.out.call hb)
              clear hb c0 c1 c2 c3 c4 c5 c6 c7 c8 c9 c10 c11 c12 c13
              obtain ⟨c0, c1, c2, c3, c4, c5, c6, c7, c8, c9, c10, c11, c12, c13⟩ := cells14 HR9.out.1
              cases y12 with
              | false =>
               go_wp2
               go_ret
               exact ⟨rfl, HR9.out.2⟩
              | true =>
               go_wp2_with fail
               refine (item_extra.calls k A0_13 c0_13 l0_13 _ _ (Kd.C_below Qr0.out HR9.out.2) Qc0.out (Glob.below QG.out HR9.out.2) Qy13.out).mono ?_
               rintro e w10 ⟨rfl, hb⟩
               have HR10 := Lib.hid (HR9.out.call hb)
               clear hb c0 c1 c2 c3 c4 c5 c6 c7 c8 c9 c10 c11 c12 c13
               obtain ⟨c0, c1, c2, c3, c4, c5, c6, c7, c8, c9, c10, c11, c12, c13⟩ := cells14 HR10.out.1
               cases y13 with
               | false =>
                go_wp2
                go_ret
                exact ⟨rfl, HR10.out.2⟩
               | true =>
                go_wp2
                go_ret
                exact ⟨rfl, HR10.out.2⟩
   | true =>
    go_wp2_with fail
    refine (strings_HasSuffix.calls _ _ _ _ Qsl.out).mono ?_
    rintro e w3 ⟨rfl, hb⟩
    have HR3 := Lib.hid (HR2.out.draw hb)
    clear hb c0 c1 c2 c3 c4 c5 c6 c7 c8 c9 c10 c11 c12 c13
    obtain ⟨c0, c1, c2, c3, c4, c5, c6, c7, c8, c9, c10, c11, c12, c13⟩ := cells14 HR3.out.1
    cases sl with
    | true =>
     obtain rfl : false = y2 := Qy2.out
     go_wp2
     go_ret
     exact ⟨rfl, HR3.out.2⟩
    | false =>
     obtain rfl : true = y2 := Qy2.out
     go_wp2_with fail
     refine (item_link.calls a0_0 a0_1 a0_2 a0_3 a0_4 a0_5 a0_6 a0_7 a0_8 a0_9 a0_10 a0_11 a0_12 A0_13 c0_13 l0_13 _ _ (Kd.C_below Qr0.out HR3.out.2) Qc0.out Qy3.out).mono ?_
     rintro e w4 ⟨rfl, hb⟩
     have HR4 := Lib.hid (HR3.out.call hb)
     clear hb c0 c1 c2 c3 c4 c5 c6 c7 c8 c9 c10 c11 c12 c13
     obtain ⟨c0, c1, c2, c3, c4, c5, c6, c7, c8, c9, c10, c11, c12, c13⟩ := cells14 HR4.out.1
     cases y3 with
     | false =>
      go_wp2
      go_ret
      exact ⟨rfl, HR4.out.2⟩
     | true =>
      cases y4 with
      | false =>
       go_wp2
       go_ret
       exact ⟨rfl, HR4.out.2⟩
      | true =>
       cases y5 with
       | false =>
        go_wp2
        go_ret
        exact ⟨rfl, HR4.out.2⟩
       | true =>
        cases y6 with
        | false =>
         go_wp2
         go_ret
         exact ⟨rfl, HR4.out.2⟩
        | true =>
         cases m7 with
         | true =>
          obtain rfl : false = y7 := Qy7.out
          go_wp2
          go_ret
          exact ⟨rfl, HR4.out.2⟩
         | false =>
          cases g7 with
          | true =>
           obtain rfl : true = y7 := Qy7.out
           go_wp2_with fail
           refine (dec_Right.calls _ _ _ _ Qy8.out).mono ?_
           rintro e w5 ⟨rfl, hb⟩
           have HR5 := Lib.hid (HR4.out.call hb)
           clear hb c0 c1 c2 c3 c4 c5 c6 c7 c8 c9 c10 c11 c12 c13
           obtain ⟨c0, c1, c2, c3, c4, c5, c6, c7, c8, c9, c10, c11, c12, c13⟩ := cells14 HR5.out.1
           cases y8 with
           | false =>
            go_wp2
            go_ret
            exact ⟨rfl, HR5.out.2⟩
           | true =>
            go_wp2_with fail
            refine (item_plain.calls _ _ _ Qy9.out).mono ?_
            rintro e w6 ⟨rfl, hb⟩
            have HR6 := Lib.hid (HR5.out.draw hb)
            clear hb c0 c1 c2 c3 c4 c5 c6 c7 c8 c9 c10 c11 c12 c13
            obtain ⟨c0, c1, c2, c3, c4, c5, c6, c7, c8, c9, c10, c11, c12, c13⟩ := cells14 HR6.out.1
            cases y9 with
            | false =>
             go_wp2
             go_ret
             exact ⟨rfl, HR6.out.2⟩
            | true =>
             go_wp2_with fail
             refine (item_plain.calls _ _ _ Qy10.out).mono ?_
             rintro e w7 ⟨rfl, hb⟩
             have HR7 := Lib.hid (HR6.out.draw hb)
             clear hb c0 c1 c2 c3 c4 c5 c6 c7 c8 c9 c10 c11 c12 c13
             obtain ⟨c0, c1, c2, c3, c4, c5, c6, c7, c8, c9, c10, c11, c12, c13⟩ := cells14 HR7.out.1
             cases y10 with
             | false =>
              go_wp2
              go_ret
              exact ⟨rfl, HR7.out.2⟩
             | true =>
              go_wp2_with fail
              refine (item_device.calls a0_0 a0_1 a0_2 a0_3 a0_4 a0_5 a0_6 a0_7 a0_8 a0_9 a0_10 a0_11 a0_12 A0_13 c0_13 l0_13 a0_11 _ _ (Kd.C_below Qr0.out HR7.out.2) Qc0.out Qy11.out).mono ?_
              rintro e w8 ⟨rfl, hb⟩
              have HR8 := Lib.hid (HR7.out.call hb)
              clear hb c0 c1 c2 c3 c4 c5 c6 c7 c8 c9 c10 c11 c12 c13
              obtain ⟨c0, c1, c2, c3, c4, c5, c6, c7, c8, c9, c10, c11, c12, c13⟩ := cells14 HR8.out.1
              cases y11 with
              | false =>
               go_wp2
               go_ret
               exact ⟨rfl, HR8.out.2⟩
              | true =>
               go_wp2_with fail
               refine (item_device.calls a0_0 a0_1 a0_2 a0_3 a0_4 a0_5 a0_6 a0_7 a0_8 a0_9 a0_10 a0_11 a0_12 A0_13 c0_13 l0_13 a0_12 _ _ (Kd.C_below Qr0.out HR8.out.2) Qc0.out Qy12.out).mono ?_
               rintro e w9 ⟨rfl, hb⟩
               have HR9 := Lib.hid (HR8.out.call hb)
               clear hb c0 c1 c2 c3 c4 c5 c6 c7 c8 c9 c10 c11 c12 c13
               obtain ⟨c0, c1, c2, c3, c4, c5, c6, c7, c8, c9, c10, c11, c12, c13⟩ := cells14 HR9.out.1
               cases y12 with
               | false =>
                go_wp2
                go_ret
                exact ⟨rfl, HR9.out.2⟩
               | true =>
                go_wp2_with fail
                refine (item_extra.calls k A0_13 c0_13 l0_13 _ _ (Kd.C_below Qr0.out HR9.out.2) Qc0.out (Glob.below QG.out HR9.out.2) Qy13.out).mono ?_
                rintro e w10 ⟨rfl, hb⟩
                have HR10 := Lib.hid (HR9.out.call hb)
                clear hb c0 c1 c2 c3 c4 c5 c6 c7 c8 c9 c10 c11 c12 c13
                obtain ⟨c0, c1, c2, c3, c4, c5, c6, c7, c8, c9, c10, c11, c12, c13⟩ := cells14 HR10.out.1
                cases y13 with
                | false =>
                 go_wp2
                 go_ret
                 exact ⟨rfl, HR10.out.2⟩
                | true =>
                 go_wp2
                 go_ret
                 exact ⟨rfl, HR10.out.2⟩
          | false =>
           obtain rfl : true = y7 := Qy7.out
           go_wp2_with fail
           refine (dec_Right.calls _ _ _ _ Qy8.out).mono ?_
           rintro e w5 ⟨rfl, hb⟩
           have HR5 := Lib.hid (HR4.out.call hb)
           clear hb c0 c1 c2 c3 c4 c5 c6 c7 c8 c9 c10 c11 c12 c13
           obtain ⟨c0, c1, c2, c3, c4, c5, c6, c7, c8, c9, c10, c11, c12, c13⟩ := cells14 HR5.out.1
           cases y8 with
           | false =>
            go_wp2
            go_ret
            exact ⟨rfl, HR5.out.2⟩
           | true =>
            go_wp2_with fail
            refine (item_plain.calls _ _ _ Qy9.out).mono ?_
            rintro e w6 ⟨rfl, hb⟩
            have HR6 := Lib.hid (HR5.out.draw hb)
            clear hb c0 c1 c2 c3 c4 c5 c6 c7 c8 c9 c10 c11 c12 c13
            obtain ⟨c0, c1, c2, c3, c4, c5, c6, c7, c8, c9, c10, c11, c12, c13⟩ := cells14 HR6.out.1
            cases y9 with
            | false =>
             go_wp2
             go_ret
             exact ⟨rfl, HR6.out.2⟩
            | true =>
             go_wp2_with fail
             refine (item_plain.calls _ _ _ Qy10.out).mono ?_
             rintro e w7 ⟨rfl, hb⟩
             have HR7 := Lib.hid (HR6.out.draw hb)
             clear hb c0 c1 c2 c3 c4 c5 c6 c7 c8 c9 c10 c11 c12 c13
             obtain ⟨c0, c1, c2, c3, c4, c5, c6, c7, c8, c9, c10, c11, c12, c13⟩ := cells14 HR7.out.1
             cases y10 with
             | false =>
              go_wp2
              go_ret
              exact ⟨rfl, HR7.out.2⟩
             | true =>
              go_wp2_with fail
              refine (item_device.calls a0_0 a0_1 a0_2 a0_3 a0_4 a0_5 a0_6 a0_7 a0_8 a0_9 a0_10 a0_11 a0_12 A0_13 c0_13 l0_13 a0_11 _ _ (Kd.C_below Qr0.out HR7.out.2) Qc0.out Qy11.out).mono ?_
              rintro e w8 ⟨rfl, hb⟩
              have HR8 := Lib.hid (HR7.out.call hb)
              clear hb c0 c1 c2 c3 c4 c5 c6 c7 c8 c9 c10 c11 c12 c13
              obtain ⟨c0, c1, c2, c3, c4, c5, c6, c7, c8, c9, c10, c11, c12, c13⟩ := cells14 HR8.out.1
              cases y11 with
              | false =>
               go_wp2
               go_ret
               exact ⟨rfl, HR8.out.2⟩
              | true =>
               go_wp2_with fail
               refine (item_device.calls a0_0 a0_1 a0_2 a0_3 a0_4 a0_5 a0_6 a0_7 a0_8 a0_9 a0_10 a0_11 a0_12 A0_13 c0_13 l0_13 a0_12 _ _ (Kd.C_below Qr0.out HR8.out.2) Qc0.out Qy12.out).mono ?_
               rintro e w9 ⟨rfl, hb⟩
               have HR9 := Lib.hid (HR8.out.call hb)
               clear hb c0 c1 c2 c3 c4 c5 c6 c7 c8 c9 c10 c11 c12 c13
               obtain ⟨c0, c1, c2, c3, c4, c5, c6, c7, c8, c9, c10, c11, c12, c13⟩ := cells14 HR9.out.1
               cases y12 with
               | false =>
                go_wp2
                go_ret
                exact ⟨rfl, HR9.out.2⟩
               | true =>
                go_wp2_with fail
                refine (item_extra.calls k A0_13 c0_13 l0_13 _ _ (Kd.C_below Qr0.out HR9.out.2) Qc0.out (Glob.below QG.out HR9.out.2) Qy13.out).mono ?_
                rintro e w10 ⟨rfl, hb⟩
                have HR10 := Lib.hid (HR9.out.call hb)
                clear hb c0 c1 c2 c3 c4 c5 c6 c7 c8 c9 c10 c11 c12 c13
                obtain ⟨c0, c1, c2, c3, c4, c5, c6, c7, c8, c9, c10, c11, c12, c13⟩ := cells14 HR10.out.1
                cases y13 with
                | false =>
                 go_wp2
                 go_ret
                 exact ⟨rfl, HR10.out.2⟩
                | true =>
                 go_wp2
                 go_ret
                 exact ⟨rfl, HR10.out.2⟩
def item_Wrong.f (k : Nat) (a0_0 : Int) (a0_1 : ByteArray) (a0_2 : ByteArray) (a0_3 : Int) (a0_4 : Int) (a0_5 : Int) (a0_6 : Int) (a0_7 : Int) (a0_8 : Int) (a0_9 : ByteArray) (a0_10 : ByteArray) (a0_11 : Int) (a0_12 : Int) (l0_13 : List (S127)) : Option (Int) :=
 if a0_1.size ≤ 2097152 then (item_extra.f k l0_13).bind fun e => some (firstBad (okL a0_0 a0_1 a0_2 a0_3 a0_4 a0_5 a0_6 a0_7 a0_8 a0_9 a0_10 a0_11 a0_12 e) 1) else none
theorem item_Wrong.calls (k : Nat) (a0_0 : Int) (a0_1 : ByteArray) (a0_2 : ByteArray) (a0_3 : Int) (a0_4 : Int) (a0_5 : Int) (a0_6 : Int) (a0_7 : Int) (a0_8 : Int) (a0_9 : ByteArray) (a0_10 : ByteArray) (a0_11 : Int) (a0_12 : Int) (A0_13 : Option Addr) (c0_13 : Nat) (l0_13 : List (S127)) (r : Int) (w : World) (hr0_13 : Kd.C k127 w A0_13 l0_13.length l0_13) (hc0_13 : l0_13.length ≤ c0_13) (hG : Glob w) (h : item_Wrong.f k a0_0 a0_1 a0_2 a0_3 a0_4 a0_5 a0_6 a0_7 a0_8 a0_9 a0_10 a0_11 a0_12 l0_13 = some r) :
  Calls Tryz.prog 22 #[.agg #[.int .i64 a0_0, .string a0_1, .string a0_2, .int .i64 a0_3, .int .i64 a0_4, .int .i64 a0_5, .int .i64 a0_6, .int .i64 a0_7, .int .i64 a0_8, .string a0_9, .string a0_10, .int .i64 a0_11, .int .i64 a0_12, .slice A0_13 l0_13.length c0_13]] w fun e w' => e = .returned (.int .i64 r) ∧ Below w.heap.size w w' := by
 unfold item_Wrong.f at h
 split at h
 case isFalse => cases h
 rename_i hs
 obtain ⟨e, he, hr⟩ := Option.bind_eq_some_iff.1 h
 obtain rfl := Option.some.inj hr
 obtain ⟨fl, f1, f2⟩ := flag_f a0_0
 have nlt : ∀ x : Int, decide (x < 0) = !decide (0 ≤ x) := fun x => by by_cases c : x < 0 <;> simp [c] <;> omega
 refine iwrong_walk k a0_0 a0_1 a0_2 a0_3 a0_4 a0_5 a0_6 a0_7 a0_8 a0_9 a0_10 a0_11 a0_12 A0_13 c0_13 l0_13 fl (nameL a0_1) (slashL a0_1) (a0_0 == 1) (decide (a0_6 < 0)) (decide (0 < a0_6)) _ _ _ _ _ _ _ _ _ _ _ _ _ w hG f1 ?_ (named_f _) (suffix_f _ hs) rfl rfl rfl (link_f a0_0 a0_1 a0_2 a0_3 a0_4 a0_5 a0_6 a0_7 a0_8 a0_9 a0_10 a0_11 a0_12 l0_13) (nlt _) (nlt _) (nlt _) rfl rfl ?_ (dtime_f _ _) ?_ ?_ (device_f a0_0 a0_1 a0_2 a0_3 a0_4 a0_5 a0_6 a0_7 a0_8 a0_9 a0_10 a0_11 a0_12 l0_13 _) (device_f a0_0 a0_1 a0_2 a0_3 a0_4 a0_5 a0_6 a0_7 a0_8 a0_9 a0_10 a0_11 a0_12 l0_13 _) he hr0_13 hc0_13
 ·cases hb : (decide (1 ≤ a0_0) && decide (a0_0 ≤ 7)) with
  | false => rw [f2.2 hb]; rfl
  | true =>
   rw [beq_eq_false_iff_ne.2 fun h => by rw [f2.1 h] at hb; cases hb]
   rfl
 ·by_cases c : a0_6 < 0
  ·rw [decide_eq_true c, decide_eq_false (show ¬ 0 < a0_6 by omega), show (a0_6 == 0) = false by simp; omega]; rfl
  ·rw [decide_eq_false c]
   by_cases c2 : 0 < a0_6
   ·rw [decide_eq_true c2, show (a0_6 == 0) = false by simp; omega]; cases (a0_0 == 1) <;> rfl
   ·rw [decide_eq_false c2, show (a0_6 == 0) = true by simp; omega]; rfl
 ·rw [plain_f, Lib.toList_data]
 ·rw [plain_f, Lib.toList_data]
end Go.Proofs.YtddhkfdfhbpblaaGreatDoor.P
namespace Go.Proofs.YtddhkfdfhbpblaaGreatDoor.P
open Go.RowKit Go.Proofs.YtddhkfdfhbpblaaGreatDoorW.PrintWords Go.Proofs.YtddhkfdfhbpblaaGreatDoorW.PrintLast Go.Proofs.YtddhkfdfhbpblaaGreatDoorW.PrintMore
theorem known_wh (l : List UInt8) : decide (whI l < 0) = !knownL l := by
 unfold whI knownL
 by_cases c0 : l = kPath
 ·subst c0; decide
 by_cases c1 : l = kLink
 ·subst c1; decide
 by_cases c2 : l = kUname
 ·subst c2; decide
 by_cases c3 : l = kGname
 ·subst c3; decide
 by_cases c4 : l = kUid
 ·subst c4; decide
 by_cases c5 : l = kGid
 ·subst c5; decide
 by_cases c6 : l = kSize
 ·subst c6; decide
 by_cases c7 : l = kMtime
 ·subst c7; decide
 rw [if_neg (Ne.symm c0), if_neg (Ne.symm c1), if_neg (Ne.symm c2), if_neg (Ne.symm c3), if_neg (Ne.symm c4), if_neg (Ne.symm c5), if_neg (Ne.symm c6), if_neg (Ne.symm c7)]
 unfold kPath at c0
 unfold kLink at c1
 unfold kUname at c2
 unfold kGname at c3
 unfold kUid at c4
 unfold kGid at c5
 unfold kSize at c6
 unfold kMtime at c7
 simp [c0, c1, c2, c3, c4, c5, c6, c7]
theorem key_ok (x : Pr) : keyOK x = !knownL x.f0.toList := by
 unfold keyOK
 rw [which_is x.f0 20 (by omega), Lib.toList_data, ← known_wh]
theorem all_key (l : List Pr) : l.all keyOK = !(l.any fun p => knownL p.f0.toList) := by
 induction l with
 | nil => rfl
 | cons x t ih =>
  rw [List.all_cons, List.any_cons, ih, key_ok, Bool.not_or]
theorem extra_f (l : List Pr) (F : Nat) (hs : Small l F) (k : Nat) (hk : l.length + F < k) : item_extra.f k l = some (overOK l && l.all keyOK) := by
 have hn := hs.1
 unfold item_extra.f
 rw [if_pos (by omega), over_prog l F hs k hk, Option.bind_some, all_key]
theorem wrong_prog (a0_0 : Int) (a0_1 : ByteArray) (a0_2 : ByteArray) (a0_3 : Int) (a0_4 : Int) (a0_5 : Int) (a0_6 : Int) (a0_7 : Int) (a0_8 : Int) (a0_9 : ByteArray) (a0_10 : ByteArray) (a0_11 : Int) (a0_12 : Int) (l0_13 : List Pr) (F : Nat) (hs : Small l0_13 F) (h1 : a0_1.size ≤ 2097152) (k : Nat) (hk : l0_13.length + F + 5 < k) :
  item_Wrong.f k a0_0 a0_1 a0_2 a0_3 a0_4 a0_5 a0_6 a0_7 a0_8 a0_9 a0_10 a0_11 a0_12 l0_13 = some (firstBad (okL a0_0 a0_1 a0_2 a0_3 a0_4 a0_5 a0_6 a0_7 a0_8 a0_9 a0_10 a0_11 a0_12 (overOK l0_13 && l0_13.all keyOK)) 1) := by
 unfold item_Wrong.f
 rw [if_pos h1, extra_f l0_13 F hs k (by omega), Option.bind_some]
end Go.Proofs.YtddhkfdfhbpblaaGreatDoor.P
namespace Go.Proofs.YtddhkfdfhbpblaaGreatDoor.P
open Go.RowKit Go.Proofs.YtddhkfdfhbpblaaGreatDoorW.PrintWords Go.Proofs.YtddhkfdfhbpblaaGreatDoorW.PrintLast Go.Proofs.YtddhkfdfhbpblaaGreatDoorW.PrintMore
open Go.Proofs.YtddhkfdfhbpblaaGreatDoor
set_option linter.unusedVariables false
theorem getT_clean (l : List Int) (h : byteL l = true) : cleanL (getT l).data.toList = true := by
 unfold getT cleanL
 rw [strOfNums_data, List.all_eq_true]
 intro c hc
 obtain ⟨x, hx, rfl⟩ := List.mem_map.1 hc
 have h1 : nzB x = true := List.all_eq_true.1 (List.all_takeWhile (l := l) (p := nzB)) x hx
 have h2 := byteL_iff.1 h x ((List.takeWhile_prefix nzB).subset hx)
 have h3 : x ≠ 0 := by
  intro e
  subst e
  cases h1
 rw [bne_iff_ne]
 intro e
 have := congrArg UInt8.toNat e
 simp at this
 omega
theorem clean_cut (l : List Int) (i n : Nat) (h : byteL l = true) : cleanL (getT (cutL l i n)).data.toList = true :=
 getT_clean _ (byteL_iff.2 fun c hc => byteL_iff.1 h c (List.mem_of_mem_take (List.mem_of_mem_drop hc)))
theorem full_clean (r : Raw) (h1 : cleanL r.pre.data.toList = true) (h2 : cleanL r.name.data.toList = true) : cleanL (fullV r).data.toList = true := by
 unfold fullV
 split
 ·exact h2
 ·have e : (ByteArray.append (ByteArray.append r.pre ⟨#[47]⟩) r.name).data.toList = r.pre.data.toList ++ [47] ++ r.name.data.toList := by
   show ((r.pre ++ (⟨#[47]⟩ : ByteArray)) ++ r.name).data.toList = _
   simp
  rw [e]
  unfold cleanL at h1 h2 ⊢
  rw [List.all_append, List.all_append, h1, h2]
  rfl
def tOK (s : ByteArray) : Prop := s.size ≤ 65536 ∧ cleanL s.data.toList = true
theorem tOK.name {s : ByteArray} (h : tOK s) (hn : s.size ≠ 0) : nameL s = true := by
 unfold nameL
 rw [h.2, decide_eq_true h.1]
 have : s.data.toList.isEmpty = false := by
  cases e : s.data.toList with
  | nil => exact absurd (by rw [← data_length, e]; rfl) hn
  | cons _ _ => rfl
 rw [this]
 rfl
theorem tOK.opt {s : ByteArray} (h : tOK s) : (s.toList.isEmpty || nameL s) = true := by
 by_cases hn : s.size = 0
 ·have : s.toList = [] := (size0p s).2 hn
  rw [this]
  rfl
 ·rw [h.name hn, Bool.or_true]
structure HK (k : Int) (h : HdP) : Prop where
 t1 : tOK h.f1
 t2 : tOK h.f2
 n3 : 0 ≤ h.f3
 n4 : 0 ≤ h.f4
 n5 : 0 ≤ h.f5
 n6 : 0 ≤ h.f6
 n7 : 0 ≤ h.f7.f1 ∧ h.f7.f1 ≤ 999999999
 t8 : tOK h.f8
 t9 : tOK h.f9
 d10 : h.f10 = 0 ∨ (0 < h.f10 ∧ (k = 4 ∨ k = 5))
 d11 : h.f11 = 0 ∨ (0 < h.f11 ∧ (k = 4 ∨ k = 5))
theorem tail_rg (m : Bool) (v n : Nat) (hn : n < 1000000000) : 0 ≤ (tailV m v n).2 ∧ (tailV m v n).2 ≤ 999999999 := by
 unfold tailV
 repeat' split
 all_goals (dsimp only; omega)
theorem timeT_rg (m : Bool) (b : List UInt8) : 0 ≤ (timeT m b).2.1 ∧ (timeT m b).2.1 ≤ 999999999 := by
 have z : (0 : Int) ≤ 0 ∧ (0 : Int) ≤ 999999999 := by decide
 unfold timeT
 split
 ·split
  ·rename_i h1
   simp only [Bool.and_eq_true] at h1
   split
   ·rename_i h2
    split
    ·exact tail_rg m _ _ (nano9_lt _ h1.1 h2)
    ·exact z
   ·exact z
  ·exact z
 ·split
  ·exact tail_rg m _ 0 (by decide)
  ·exact z
theorem timeV_rg (l : List UInt8) : 0 ≤ (timeV l).2.1 ∧ (timeV l).2.1 ≤ 999999999 := by
 cases l with
 | nil => exact timeT_rg false []
 | cons c t =>
  by_cases h : c = 45
  ·subst h
   rw [timeV_hit]
   exact timeT_rg true t
  ·rw [timeV_miss t h]
   exact timeT_rg false (c :: t)
theorem nval_nn (l : List UInt8) : 0 ≤ nvalV l := by
 unfold nvalV
 split
 ·exact Int.natCast_nonneg _
 ·exact Int.le_refl 0
theorem pair_clean {q : Pr} (h : pOK q = true) (hk : q.f0.toList = [112, 97, 116, 104] ∨ q.f0.toList = [108, 105, 110, 107, 112, 97, 116, 104] ∨ q.f0.toList = [117, 110, 97, 109, 101] ∨ q.f0.toList = [103, 110, 97, 109, 101]) : cleanL q.f1.data.toList = true := by
 unfold pOK pairOK at h
 simp only [Bool.and_eq_true] at h
 have hv := h.2.2.2.2
 rw [Lib.toList_data] at hk
 unfold valOK at hv
 by_cases h0 : vx q = []
 ·show cleanL (vx q) = true
  rw [h0]
  rfl
 ·rw [if_neg h0, if_pos (by unfold kPath kLink kUname kGname; exact hk)] at hv
  exact hv
theorem step_hk {k : Int} {h : HdP} {q : Pr} (hh : HK k h) (hq : pOK q = true) (hs : q.f1.size ≤ 65536) : HK k (stepH h q) := by
 obtain ⟨t1, t2, n3, n4, n5, n6, n7, t8, t9, d10, d11⟩ := hh
 unfold stepH
 split
 ·unfold sayV
  split
  ·rename_i c
   exact ⟨⟨hs, pair_clean hq (.inl (eq_of_beq c))⟩, t2, n3, n4, n5, n6, n7, t8, t9, d10, d11⟩
  split
  ·rename_i c
   exact ⟨t1, ⟨hs, pair_clean hq (.inr (.inl (eq_of_beq c)))⟩, n3, n4, n5, n6, n7, t8, t9, d10, d11⟩
  split
  ·rename_i c
   exact ⟨t1, t2, n3, n4, n5, n6, n7, ⟨hs, pair_clean hq (.inr (.inr (.inl (eq_of_beq c))))⟩, t9, d10, d11⟩
  split
  ·rename_i c
   exact ⟨t1, t2, n3, n4, n5, n6, n7, t8, ⟨hs, pair_clean hq (.inr (.inr (.inr (eq_of_beq c))))⟩, d10, d11⟩
  split
  ·exact ⟨t1, t2, n3, nval_nn _, n5, n6, n7, t8, t9, d10, d11⟩
  split
  ·exact ⟨t1, t2, n3, n4, nval_nn _, n6, n7, t8, t9, d10, d11⟩
  split
  ·exact ⟨t1, t2, n3, n4, n5, nval_nn _, n7, t8, t9, d10, d11⟩
  split
  ·exact ⟨t1, t2, n3, n4, n5, n6, timeV_rg _, t8, t9, d10, d11⟩
  ·exact ⟨t1, t2, n3, n4, n5, n6, n7, t8, t9, d10, d11⟩
 ·exact ⟨t1, t2, n3, n4, n5, n6, n7, t8, t9, d10, d11⟩
theorem fold_hk {k : Int} : ∀ (l : List Pr) (h : HdP), HK k h → (∀ q ∈ l, pOK q = true ∧ q.f1.size ≤ 65536) → HK k (l.foldl stepH h)
 | [], h, hh, _ => hh
 | q :: t, h, hh, hq => fold_hk t _ (step_hk hh (hq q (List.mem_cons_self ..)).1 (hq q (List.mem_cons_self ..)).2) (fun x hx => hq x (List.mem_cons_of_mem _ hx))
theorem fold_extra : ∀ (l : List Pr) (h : HdP), (l.foldl stepH h).f12 = h.f12 ++ l.filter (fun q => !knownL q.f0.toList)
 | [], h => (List.append_nil _).symm
 | q :: t, h => by
  rw [List.foldl_cons, fold_extra t, List.filter_cons]
  unfold stepH
  cases e : knownL q.f0.toList with
  | true =>
   rw [if_pos rfl, sayV_ex, if_neg (by decide)]
  | false =>
   rw [if_neg (by decide), if_pos (by decide)]
   show (h.f12 ++ [q]) ++ _ = _
   rw [List.append_assoc]
   rfl
theorem sort_filter (p : Pr → Bool) : ∀ (l : List Pr), sortF none l = true → sortF none (l.filter p) = true := by
 intro l h
 have hS : ∀ m : List Pr, sortF none m = true ↔ Sorted m := fun m => by
  cases m with
  | nil => simp [sortF, Sorted]
  | cons x t =>
   unfold sortF
   simp only [Bool.and_eq_true, sortF_some, true_and]
   unfold Sorted
   simp only [List.pairwise_cons, List.mem_cons, forall_eq_or_imp]
   constructor
   ·rintro ⟨h2, h3, h4, h5⟩
    refine ⟨⟨h3, h4⟩, ?_, h5⟩
    intro e
    rw [e] at h2
    cases h2
   ·rintro ⟨⟨h3, h4⟩, h5, h6⟩
    refine ⟨?_, h3, h4, h6⟩
    cases h : vx x with
    | nil => exact absurd h h5
    | cons _ _ => rfl
 obtain ⟨h1, h2⟩ := (hS l).1 h
 exact (hS _).2 ⟨h1.sublist (List.filter_sublist), fun x hx => h2 x ((List.mem_filter.1 hx).1)⟩
theorem over_filter (l : List Pr) (h : overOK l = true) : (overOK (l.filter (fun q => !knownL q.f0.toList)) && (l.filter (fun q => !knownL q.f0.toList)).all keyOK) = true := by
 unfold overOK at h ⊢
 simp only [Bool.and_eq_true] at h ⊢
 refine ⟨⟨List.all_eq_true.2 fun x hx => List.all_eq_true.1 h.1 x ((List.mem_filter.1 hx).1), sort_filter _ l h.2⟩, List.all_eq_true.2 fun x hx => ?_⟩
 rw [key_ok]
 exact (List.mem_filter.1 hx).2
theorem raw_hk (l : List Int) (hl : l.length = 512) (hb : byteL l = true) (hr : (getR l).2 = 0) (nm lk : ByteArray) (h1 : tOK nm) (h2 : tOK lk) (hn : numsV l (devV (getR l).1) = 0) : HK (kindV (getR l).1.flag) (rawH l (getR l).1 nm lk) := by
 have hg : (getR l).1 = rawV l := by
  unfold getR at hr ⊢
  split
  ·split
   ·rfl
   ·rename_i h3 h4
    rw [if_pos h3, if_neg h4] at hr
    cases hr
  ·rename_i h3
   rw [if_neg h3] at hr
   exact absurd hr h3
 obtain ⟨s1, s2, s3, s4, s5⟩ := raw_sz l hl
 have hu : tOK (getR l).1.user := by
  rw [hg]
  refine ⟨by omega, ?_⟩
  unfold rawV
  dsimp only
  split
  ·rfl
  ·exact clean_cut _ _ _ hb
 have hgr : tOK (getR l).1.group := by
  rw [hg]
  refine ⟨by omega, ?_⟩
  unfold rawV
  dsimp only
  split
  ·rfl
  ·exact clean_cut _ _ _ hb
 have n0 : (numV l 0).2 = 0 ∧ (numV l 1).2 = 0 ∧ (numV l 2).2 = 0 ∧ (numV l 3).2 = 0 ∧ (devV (getR l).1 = true → (numV l 5).2 = 0 ∧ (numV l 6).2 = 0) := by
  unfold numsV at hn
  by_cases a0 : (numV l 0).2 = 0
  ·rw [if_neg (fun h => h a0)] at hn
   by_cases a1 : (numV l 1).2 = 0
   ·rw [if_neg (fun h => h a1)] at hn
    by_cases a2 : (numV l 2).2 = 0
    ·rw [if_neg (fun h => h a2)] at hn
     by_cases a3 : (numV l 3).2 = 0
     ·rw [if_neg (fun h => h a3)] at hn
      by_cases a4 : (numV l 4).2 = 0
      ·rw [if_neg (fun h => h a4)] at hn
       refine ⟨a0, a1, a2, a3, fun hd => ?_⟩
       rw [if_pos hd] at hn
       by_cases a5 : (numV l 5).2 = 0
       ·rw [if_neg (fun h => h a5)] at hn
        exact ⟨a5, hn⟩
       ·rw [if_pos a5] at hn; exact absurd hn a5
      ·rw [if_pos a4] at hn; exact absurd hn a4
     ·rw [if_pos a3] at hn; exact absurd hn a3
    ·rw [if_pos a2] at hn; exact absurd hn a2
   ·rw [if_pos a1] at hn; exact absurd hn a1
  ·rw [if_pos a0] at hn; exact absurd hn a0
 obtain ⟨m0, m1, m2, m3, m5⟩ := n0
 have hdk : devV (getR l).1 = true → kindV (getR l).1.flag = 4 ∨ kindV (getR l).1.flag = 5 := by
  intro h
  unfold devV at h
  simp only [Bool.and_eq_true, Bool.or_eq_true, beq_iff_eq] at h
  exact h.1
 have hd : ∀ i, i = 5 ∨ i = 6 → (if devV (getR l).1 = true then (numV l i).1 else 0) = 0 ∨ (0 < (if devV (getR l).1 = true then (numV l i).1 else 0) ∧ (kindV (getR l).1.flag = 4 ∨ kindV (getR l).1.flag = 5)) := by
  intro i hi
  by_cases c : devV (getR l).1 = true
  ·rw [if_pos c]
   have hz : (numV l i).2 = 0 := by
    rcases hi with rfl | rfl
    ·exact (m5 c).1
    ·exact (m5 c).2
   have := numV_nn (l := l) (i := i) hz (by omega)
   by_cases z : (numV l i).1 = 0
   ·exact .inl z
   ·exact .inr ⟨by omega, hdk c⟩
  ·rw [if_neg c]
   exact .inl rfl
 exact ⟨h1, h2, numV_nn m0 (by decide), numV_nn m1 (by decide), numV_nn m2 (by decide), numV_nn m3 (by decide), ⟨Int.le_refl 0, by show (0 : Int) ≤ 999999999; decide⟩, hu, hgr, hd 5 (.inl rfl), hd 6 (.inr rfl)⟩
theorem told_clean (k : Int) (s : ByteArray) (h : tOK s) (h0 : s.size ≠ 0) : tOK (toldV k s).2 ∧ (toldV k s).2.size ≠ 0 := by
 have hz := told_sz k s
 unfold toldV at hz ⊢
 split
 ·split
  ·show tOK (if 1 < s.size then s.extract 0 (s.size - 1) else s) ∧ (if 1 < s.size then s.extract 0 (s.size - 1) else s).size ≠ 0
   split
   ·refine ⟨⟨by rw [ByteArray.size_extract]; have := h.1; omega, ?_⟩, by rw [ByteArray.size_extract]; omega⟩
    have hc := h.2
    unfold cleanL at hc ⊢
    rw [List.all_eq_true] at hc ⊢
    intro c hm
    refine hc c ?_
    rw [ext_list] at hm
    exact List.mem_of_mem_take (List.mem_of_mem_drop hm)
   ·exact ⟨h, h0⟩
  ·exact ⟨h, h0⟩
 ·exact ⟨h, h0⟩
theorem told_kind (k : Int) (s : ByteArray) : (toldV k s).1 = k ∨ ((k = 1 ∨ k = 6) ∧ (toldV k s).1 = 6) := by
 unfold toldV
 split
 ·split
  ·rename_i h
   exact .inr ⟨h, rfl⟩
  ·exact .inl rfl
 ·exact .inl rfl
theorem told_one (k : Int) (s : ByteArray) (h : (toldV k s).1 = 1) : slashL (toldV k s).2 = false := by
 have hsl : slashL s = slB s := by
  rw [slB_last]
  unfold slashL
  split
  ·rename_i e
   rw [e]
   rfl
  ·rfl
 unfold toldV at h ⊢
 by_cases c : slB s = true
 ·rw [if_pos c] at h ⊢
  by_cases c2 : k = 1 ∨ k = 6
  ·rw [if_pos c2] at h
   cases h
  ·rw [if_neg c2] at h
   exact absurd (.inl h) c2
 ·rw [if_neg c] at h ⊢
  show slashL s = false
  rw [hsl]
  exact Bool.eq_false_iff.2 c
theorem kind_rg (c : Int) (h : kindV c ≠ 0) : 1 ≤ kindV c ∧ kindV c ≤ 7 := by
 unfold kindV at h ⊢
 split
 ·decide
 ·split
  ·omega
  ·rename_i h1 h2
   rw [if_neg h1, if_neg h2] at h
   exact absurd rfl h
theorem first_all : ∀ (l : List Bool) (n : Nat), (∀ b ∈ l, b = true) → firstBad l n = 0
 | [], n, _ => rfl
 | b :: t, n, h => by
  rw [firstBad, h b (List.mem_cons_self ..), if_pos rfl]
  exact first_all t _ (fun x hx => h x (List.mem_cons_of_mem _ hx))
theorem item_right (l : List Int) (hl : l.length = 512) (hb : byteL l = true) (hr : (getR l).2 = 0) (hk : kindV (getR l).1.flag ≠ 0) (p : Pend) (hp : PR p) (hs : ∀ x ∈ p.glo ++ p.loc, x.f1.size ≤ 65536) (hn : tOK p.name) (hlk : tOK p.link) (h : (itemC l (getR l).1 p).2 = 0) :
  firstBad (okL (itemC l (getR l).1 p).1.f0 (itemC l (getR l).1 p).1.f1 (itemC l (getR l).1 p).1.f2 (itemC l (getR l).1 p).1.f3 (itemC l (getR l).1 p).1.f4 (itemC l (getR l).1 p).1.f5 (itemC l (getR l).1 p).1.f6 (itemC l (getR l).1 p).1.f7.f0 (itemC l (getR l).1 p).1.f7.f1 (itemC l (getR l).1 p).1.f8 (itemC l (getR l).1 p).1.f9 (itemC l (getR l).1 p).1.f10 (itemC l (getR l).1 p).1.f11 (overOK (itemC l (getR l).1 p).1.f12 && (itemC l (getR l).1 p).1.f12.all keyOK)) 1 = 0 := by
 have hg : (getR l).1 = rawV l := by
  unfold getR at hr ⊢
  split
  ·split
   ·rfl
   ·rename_i h3 h4
    rw [if_pos h3, if_neg h4] at hr
    cases hr
  ·rename_i h3
   rw [if_neg h3] at hr
   exact absurd hr h3
 obtain ⟨s1, s2, s3, s4, s5⟩ := raw_sz l hl
 unfold itemC at h ⊢
 by_cases c1 : numsV l (devV (getR l).1) ≠ 0
 ·rw [if_pos c1] at h
  exact absurd h c1
 rw [if_neg c1] at h ⊢
 by_cases c2 : lessC (getR l).1 p = true
 ·rw [if_pos c2] at h
  cases h
 rw [if_neg c2] at h ⊢
 have hnm : tOK (nameC (getR l).1 p) := by
  unfold nameC
  split
  ·exact hn
  ·refine ⟨by have := full_size (getR l).1; rw [hg] at this ⊢; omega, full_clean _ ?_ ?_⟩
   ·rw [hg]
    unfold rawV
    dsimp only
    split
    ·exact clean_cut _ _ _ hb
    ·rfl
   ·rw [hg]
    exact clean_cut _ _ _ hb
 have hln : tOK (if 0 ≤ p.aL then p.link else (getR l).1.link) := by
  split
  ·exact hlk
  ·rw [hg]
   exact ⟨by omega, clean_cut _ _ _ hb⟩
 have hraw := raw_hk l hl hb hr (nameC (getR l).1 p) (if 0 ≤ p.aL then p.link else (getR l).1.link) hnm hln (by omega)
 have hfold := fold_hk (layP p.glo p.loc) _ hraw (fun q hq => ⟨hp.ok q (layP_mem hq), hs q (layP_mem hq)⟩)
 have hex := fold_extra (layP p.glo p.loc) (rawH l (getR l).1 (nameC (getR l).1 p) (if 0 ≤ p.aL then p.link else (getR l).1.link))
 have hov := over_filter _ (laid_ok (p.glo ++ p.loc) _ (List.all_eq_true.2 hp.ok) (lay_laid p.glo p.loc))
 obtain ⟨F, hF⟩ : ∃ F, (layP p.glo p.loc).foldl stepH (rawH l (getR l).1 (nameC (getR l).1 p) (if 0 ≤ p.aL then p.link else (getR l).1.link)) = F := ⟨_, rfl⟩
 unfold laidH at h ⊢
 rw [hF] at h hfold hex ⊢
 obtain ⟨K, hK⟩ : ∃ K, kindV (getR l).1.flag = K := ⟨_, rfl⟩
 have hkr := kind_rg _ hk
 have hlv : linksV (getR l).1 = true ↔ (K = 2 ∨ K = 3) := by
  unfold linksV
  rw [hK]
  simp
 rw [hK] at h hfold hkr ⊢
 obtain ⟨b, hbv⟩ : ∃ b, linksV (getR l).1 = b := ⟨_, rfl⟩
 rw [hbv] at h hlv ⊢
 have hx : HK K (cutL2 F b) ∧ (b = false → (cutL2 F b).f2.size = 0) ∧ (cutL2 F b).f12 = F.f12 := by
  unfold cutL2
  split
  ·rename_i e
   exact ⟨hfold, fun h2 => (by rw [e] at h2; cases h2), rfl⟩
  ·obtain ⟨t1, t2, n3, n4, n5, n6, n7, t8, t9, d10, d11⟩ := hfold
   exact ⟨⟨t1, ⟨Nat.zero_le _, rfl⟩, n3, n4, n5, n6, n7, t8, t9, d10, d11⟩, fun _ => rfl, rfl⟩
 obtain ⟨G, hG⟩ : ∃ G, cutL2 F b = G := ⟨_, rfl⟩
 rw [hG] at h hx ⊢
 obtain ⟨⟨t1, t2, n3, n4, n5, n6, n7, t8, t9, d10, d11⟩, hx2, hx3⟩ := hx
 unfold endV at h ⊢
 by_cases e1 : G.f1.size = 0 ∨ (b = true ∧ G.f2.size = 0)
 ·rw [if_pos e1] at h
  cases h
 rw [if_neg e1] at h ⊢
 by_cases e2 : G.f6 > 0 ∧ (toldV K G.f1).1 ≠ 1
 ·rw [if_pos e2] at h
  cases h
 rw [if_neg e2]
 have e3 : G.f1.size ≠ 0 := fun e => e1 (.inl e)
 obtain ⟨u1, u2⟩ := told_clean K G.f1 t1 e3
 have hT := told_kind K G.f1
 have hO := told_one K G.f1
 obtain ⟨T, hTT⟩ : ∃ T, (toldV K G.f1).1 = T := ⟨_, rfl⟩
 obtain ⟨S, hSS⟩ : ∃ S, (toldV K G.f1).2 = S := ⟨_, rfl⟩
 rw [hTT] at hT hO e2 ⊢
 rw [hSS] at u1 u2 hO ⊢
 refine first_all _ _ ?_
 have g1 : (decide (1 ≤ T) && decide (T ≤ 7)) = true := by simp; omega
 have g2 : (nameL S && !((T == 1) && slashL S)) = true := by
  rw [u1.name u2]
  by_cases c : T = 1
  ·rw [hO c]; simp
  ·have : (T == 1) = false := by simpa using c
   rw [this]; rfl
 have g3 : (((T == 2) || (T == 3)) && nameL G.f2 || (!((T == 2) || (T == 3)) && G.f2.toList.isEmpty)) = true := by
  by_cases c : K = 2 ∨ K = 3
  ·have hb1 := hlv.2 c
   have : T = K := by
    rcases hT with e | e
    ·exact e
    ·omega
   have hl2 : ((T == 2) || (T == 3)) = true := by simp; omega
   rw [hl2, t2.name (fun e => e1 (.inr ⟨hb1, e⟩))]
   rfl
  ·have hb0 : b = false := Bool.eq_false_iff.2 (fun e => c (hlv.1 e))
   have hl2 : ((T == 2) || (T == 3)) = false := by simp; omega
   rw [hl2, (size0p G.f2).2 (hx2 hb0)]
   rfl
 have g7 : ((G.f6 == 0) || (decide (0 < G.f6) && (T == 1))) = true := by
  by_cases c : G.f6 = 0
  ·rw [c]; rfl
  ·have h6 : 0 < G.f6 := by omega
   have : T = 1 := Decidable.byContradiction fun e => e2 ⟨h6, e⟩
   rw [this, decide_eq_true h6]
   simp
 have gd : ∀ x : Int, (x = 0 ∨ (0 < x ∧ (K = 4 ∨ K = 5))) → ((x == 0) || (decide (0 < x) && ((T == 4) || (T == 5)))) = true := by
  intro x hx
  rcases hx with e | ⟨e, c⟩
  ·rw [e]; rfl
  ·have : T = K := by
    rcases hT with e | e
    ·exact e
    ·omega
   have hl2 : ((T == 4) || (T == 5)) = true := by simp; omega
   rw [hl2, decide_eq_true e]
   simp
 have g13 : (overOK G.f12 && G.f12.all keyOK) = true := by
  rw [hx3, hex]
  exact hov
 intro x hx
 unfold okL at hx
 simp only [List.mem_cons, List.not_mem_nil, or_false] at hx
 rcases hx with rfl | rfl | rfl | rfl | rfl | rfl | rfl | rfl | rfl | rfl | rfl | rfl | rfl
 ·exact g1
 ·exact g2
 ·exact g3
 ·exact decide_eq_true n3
 ·exact decide_eq_true n4
 ·exact decide_eq_true n5
 ·exact g7
 ·rw [decide_eq_true n7.1, decide_eq_true n7.2]; rfl
 ·exact t8.opt
 ·exact t9.opt
 ·exact gd _ d10
 ·exact gd _ d11
 ·exact g13
end Go.Proofs.YtddhkfdfhbpblaaGreatDoor.P
namespace Go.Proofs.YtddhkfdfhbpblaaGreatDoor.P
open Go.RowKit Go.Proofs.YtddhkfdfhbpblaaGreatDoorW.PrintWords Go.Proofs.YtddhkfdfhbpblaaGreatDoorW.PrintLast Go.Proofs.YtddhkfdfhbpblaaGreatDoorW.PrintMore
open Go.Proofs.YtddhkfdfhbpblaaGreatDoor
set_option linter.unusedVariables false
structure OW (w1 w : World) (P : Nat) (dp : Dc) (pl pg pb v : Value) (L : List (List Int)) : Prop where
 dsp : DS w P dp pl pg pb
 hp : w1.heap.size ≤ P
 op : ∀ k, pb.ownBlock = some k → w1.heap.size ≤ k
 bel : Below w1.heap.size w1 w
 row : Kd.R (kBl w1) 22 w w1.heap.size (fun k => w1.heap.size ≤ k) v L
section
variable {w1 w w' : World} {P : Nat} {dp d' : Dc} {pl pg pb v pl' pg' pb' : Value} {L : List (List Int)}
theorem OW.below (t : OW w1 w P dp pl pg pb v L) (hb : Below w.heap.size w w') : OW w1 w' P dp pl pg pb v L :=
 ⟨t.dsp.below hb, t.hp, t.op, below_step t.bel hb, Kd.R_below t.row hb⟩
theorem OW.step (t : OW w1 w P dp pl pg pb v L) (k : DT w pb w' P d' pl' pg' pb') : OW w1 w' P d' pl' pg' pb' v L := by
 have hlt := t.bel.size
 refine ⟨k.ds, t.hp, fun j hj => ?_, k.ch.below hlt t.hp t.op t.bel, R_chg t.row t.dsp k.ch (fun q hq => ?_)⟩
 ·rcases k.ch.own with e2 | e2 | ⟨b, e2, hb⟩
  ·exact t.op j (e2 ▸ hj)
  ·rw [e2] at hj; cases hj
  ·rw [e2] at hj; injection hj with hj; omega
 ·have : q = 22 := by
   rcases List.mem_cons.1 hq with rfl | hq
   ·rfl
   ·exact absurd hq (List.not_mem_nil)
  subst this
  decide
theorem OW.dg (t : OW w1 w P dp pl pg pb v L) (hG : Glob w1) (h6 : 6 ≤ w1.heap.size) : DG w P pb := ⟨hG.below t.bel, Nat.le_trans h6 t.hp, fun k hk => Nat.le_trans h6 (t.op k hk)⟩
theorem OW.big (t : OW w1 w P dp pl pg pb v L) (h6 : 6 ≤ w1.heap.size) : 6 ≤ w.heap.size := Nat.le_trans h6 t.bel.size
theorem OW.at_ {A : Option Addr} {N c : Nat} (t : OW w1 w P dp pl pg pb (.slice A N c) L) (i : Nat) (hi : i < L.length) : ∃ ad A1 c1, A = some ad ∧ w.cell? (ad.add i) = some (.slice A1 (L.getD i []).length c1) ∧ (L.getD i []).length ≤ c1 ∧ Kd.C kB w A1 (L.getD i []).length (L.getD i []) ∧ (∀ a, A1 = some a → a.block ≠ P ∧ some a.block ≠ pb.ownBlock) ∧ ∀ a, A1 = some a → a.block < w1.heap.size := by
 obtain ⟨hn, _, hC⟩ := Kd.R_reads' t.row
 obtain ⟨ad, cs, e, hs, hr, hc⟩ := ReadsRow.get_ hC [] (i : Int) (by omega) (by omega)
 rw [Int.toNat_natCast] at hr hc
 obtain ⟨A1, c1, rfl, h1, h2, h3⟩ := hr
 have := hc 0 _ rfl
 rw [Nat.add_zero, show i * (kBl w1).sz = i from Nat.mul_one _] at this
 exact ⟨ad, A1, c1, e, this, h1, Kd.C_below h2 t.bel, fun a ha => ⟨by have := h3 a ha; have := t.hp; omega, fun e2 => by have := h3 a ha; have := t.op _ e2.symm; omega⟩, h3⟩
end
def CLP (d : Dc) : Prop := cleanL d.p.name.data.toList = true ∧ cleanL d.p.link.data.toList = true
theorem ext_clean {d : Dc} (h : CLP d) (hb : byteL d.buf = true) : CLP (extC d).1 := by
 have hx : CLP { d with p := (extV d.fl d.buf d.from_ d.p).1 } := by
  have hg := getT_clean d.buf hb
  unfold extV
  split
  ·split
   ·exact h
   ·split
    ·exact ⟨hg, h.2⟩
    ·exact ⟨h.1, hg⟩
  ·cases payV d.buf with
   | none => exact h
   | some ps =>
    dsimp only
    split
    ·exact h
    ·exact h
 unfold extC
 split
 ·exact h
 ·exact hx
theorem blk_clean {n : Nat} {d : Dc} (hd : DN n d) (h : CLP d) (l : List Int) (hb : byteL l = true) : CLP (blkC d l).1 := by
 unfold blkC
 split
 ·exact h
 split
 ·exact h
 split
 ·rename_i h1
  have o3 := (hd.one h1).2.2.1
  split
  ·exact h
  ·exact ext_clean (d := { d with blocks := d.blocks + 1, buf := d.buf ++ l.take d.left.toNat, left := 0 }) h (byteL_iff.2 fun c hc => (List.mem_append.1 hc).elim (byteL_iff.1 o3 c) (fun hm => byteL_iff.1 hb c (List.mem_of_mem_take hm)))
 split
 ·split <;> exact h
 split
 ·split
  ·exact h
  ·unfold edC
   split <;> exact h
 split
 ·exact h
 ·unfold headC
  split
  ·exact h
  split
  ·split
   ·exact h
   split
   ·exact h
   split
   ·exact ext_clean (d := { d with blocks := d.blocks + 1, fl := (getR l).1.flag, from_ := d.blocks, left := (numV l 3).1, buf := [] }) h rfl
   ·exact h
  split
  ·exact h
  ·exact ⟨rfl, rfl⟩
theorem blk_item {d : Dc} {l : List Int} {h : HdP} (e : (blkC d l).2.1 = .item h) : (getR l).2 = 0 ∧ kindV (getR l).1.flag ≠ 0 ∧ (itemC l (getR l).1 d.p).2 = 0 ∧ h = (itemC l (getR l).1 d.p).1 := by
 unfold blkC at e
 split at e
 ·cases e
 split at e
 ·cases e
 split at e
 ·split at e <;> cases e
 split at e
 ·split at e <;> cases e
 split at e
 ·split at e
  ·cases e
  ·unfold edC at e
   split at e <;> cases e
 split at e
 ·cases e
 ·unfold headC at e
  split at e
  ·cases e
  rename_i c1
  split at e
  ·split at e
   ·cases e
   split at e
   ·cases e
   split at e <;> cases e
  rename_i c2
  split at e
  ·cases e
  ·rename_i c3
   refine ⟨by omega, c2, ?_, ?_⟩
   ·have c3 : ¬ (itemC l (getR l).1 d.p).2 ≠ 0 := c3
    omega
   ·injection e with e
    exact e.symm
theorem blk_fin {d : Dc} {l : List Int} (e : (blkC d l).2.1 = .fin) : (blkC d l).1.st = 4 := by
 unfold blkC at e ⊢
 split at e
 ·cases e
 rename_i a1
 rw [if_neg a1]
 split at e
 ·cases e
 rename_i a2
 rw [if_neg a2]
 split at e
 ·split at e <;> cases e
 rename_i a3
 rw [if_neg a3]
 split at e
 ·split at e <;> cases e
 rename_i a4
 rw [if_neg a4]
 split at e
 ·rename_i a5
  rw [if_pos a5]
  split at e
  ·cases e
  ·rename_i a6
   rw [if_neg a6]
   unfold edC at e ⊢
   split at e
   ·cases e
   ·rename_i a7
    rw [if_neg a7]
 split at e
 ·cases e
 ·unfold headC at e
  split at e
  ·cases e
  split at e
  ·split at e
   ·cases e
   split at e
   ·cases e
   split at e <;> cases e
  split at e <;> cases e
theorem num_code (l : List Int) (i : Nat) : (numV l i).2 = 0 ∨ (numV l i).2 = 5 := by
 unfold numV
 split
 ·split
  ·exact .inr rfl
  ·exact .inl rfl
 ·exact .inr rfl
theorem nums_code (l : List Int) (b : Bool) : numsV l b = 0 ∨ numsV l b = 5 := by
 have h := num_code l
 unfold numsV
 split
 ·exact h 0
 split
 ·exact h 1
 split
 ·exact h 2
 split
 ·exact h 3
 split
 ·exact h 4
 split
 ·split
  ·exact h 5
  ·exact h 6
 ·exact .inl rfl
theorem end_code (x : HdP) (k : Int) (b : Bool) : (endV x k b).2 = 0 ∨ (endV x k b).2 = 10 ∨ (endV x k b).2 = 11 := by
 unfold endV
 split
 ·exact .inr (.inl rfl)
 split
 ·exact .inr (.inr rfl)
 ·exact .inl rfl
theorem code_rg {n : Nat} {d : Dc} (h : RI n d) (l : List Int) : 0 ≤ (blkC d l).2.2 ∧ (blkC d l).2.2 ≤ 12 := by
 have z : (0 : Int) ≤ 0 ∧ (0 : Int) ≤ 12 := by decide
 have hx : ∀ x : Dc, 0 ≤ (extC x).2 ∧ (extC x).2 ≤ 12 := by
  intro x
  have hv : 0 ≤ (extV x.fl x.buf x.from_ x.p).2 ∧ (extV x.fl x.buf x.from_ x.p).2 ≤ 12 := by
   unfold extV
   split
   ·split
    ·show (0 : Int) ≤ 10 ∧ (10 : Int) ≤ 12; decide
    ·split <;> exact z
   ·cases payV x.buf with
    | none => show (0 : Int) ≤ 6 ∧ (6 : Int) ≤ 12; decide
    | some ps =>
     dsimp only
     split <;> exact z
  unfold extC
  split
  ·exact hv
  ·exact z
 have hg : 0 ≤ (getR l).2 ∧ (getR l).2 ≤ 12 := by
  unfold getR
  split
  ·split
   ·exact z
   ·show (0 : Int) ≤ 9 ∧ (9 : Int) ≤ 12; decide
  ·show 0 ≤ checkV l ∧ checkV l ≤ 12
   unfold checkV
   repeat' split
   all_goals decide
 have hi : 0 ≤ (itemC l (getR l).1 d.p).2 ∧ (itemC l (getR l).1 d.p).2 ≤ 12 := by
  unfold itemC
  split
  ·have := nums_code l (devV (getR l).1)
   show 0 ≤ numsV l (devV (getR l).1) ∧ numsV l (devV (getR l).1) ≤ 12
   omega
  ·split
   ·show (0 : Int) ≤ 10 ∧ (10 : Int) ≤ 12; decide
   ·have := end_code (laidH l (getR l).1 d.p (nameC (getR l).1 d.p)) (kindV (getR l).1.flag) (linksV (getR l).1)
    omega
 have hn := num_code l 3
 have n5 : ¬ d.st = 5 := by rcases h.st with e | e | e | e <;> omega
 unfold blkC
 rw [if_neg n5]
 split
 ·exact z
 split
 ·split
  ·exact z
  ·exact hx _
 split
 ·split <;> exact z
 split
 ·split
  ·show (0 : Int) ≤ 4 ∧ (4 : Int) ≤ 12; decide
  ·unfold edC
   split
   ·show (0 : Int) ≤ 7 ∧ (7 : Int) ≤ 12; decide
   ·exact z
 split
 ·exact z
 ·unfold headC
  split
  ·exact hg
  split
  ·split
   ·show 0 ≤ (numV l 3).2 ∧ (numV l 3).2 ≤ 12
    omega
   split
   ·show (0 : Int) ≤ 12 ∧ (12 : Int) ≤ 12; decide
   split
   ·exact hx _
   ·exact z
  split
  ·exact hi
  ·exact z
end Go.Proofs.YtddhkfdfhbpblaaGreatDoor.P
namespace Go.Proofs.YtddhkfdfhbpblaaGreatDoor.P
open Go.RowKit Go.Proofs.YtddhkfdfhbpblaaGreatDoorW.PrintWords Go.Proofs.YtddhkfdfhbpblaaGreatDoorW.PrintLast Go.Proofs.YtddhkfdfhbpblaaGreatDoorW.PrintMore
open Go.Proofs.YtddhkfdfhbpblaaGreatDoor
set_option linter.unusedVariables false
attribute [local go_sem] Oper.semAt_some
theorem item_mem (l : List Int) (r : Raw) (p : Pend) (x : Pr) (h : x ∈ (itemC l r p).1.f12) : x ∈ p.glo ++ p.loc := by
 unfold itemC at h
 split at h
 ·cases h
 split at h
 ·cases h
 unfold endV at h
 split at h
 ·cases h
 split at h
 ·cases h
 have h : x ∈ (laidH l r p (nameC r p)).f12 := h
 unfold laidH at h
 rw [cut_f12, fold_extra] at h
 rcases List.mem_append.1 h with h | h
 ·cases h
 ·exact layP_mem (List.mem_filter.1 h).1
theorem bad_two {a b : Bool} {t : List Bool} (h : firstBad (a :: b :: t) 1 = 0) : b = true := by
 cases a <;> cases b <;> simp [firstBad] at h ⊢
theorem item_name {a0 : Int} {a1 a2 : ByteArray} {a3 a4 a5 a6 a7 a8 : Int} {a9 a10 : ByteArray} {a11 a12 : Int} {e : Bool} (h : firstBad (okL a0 a1 a2 a3 a4 a5 a6 a7 a8 a9 a10 a11 a12 e) 1 = 0) : a1.size ≤ 65536 := by
 have := bad_two h
 unfold nameL at this
 simp only [Bool.and_eq_true, decide_eq_true_eq] at this
 exact this.1.2.1
set_option maxRecDepth 100000 in
set_option maxHeartbeats 12800000 in
theorem right_calls (A0 : Option Addr) (c0 : Nat) (l0 : List Int) (w : World) (hG : Glob w) (h6 : 6 ≤ w.heap.size) (hr0 : Kd.C kB w A0 l0.length l0) (hc0 : l0.length ≤ c0) (hcm : c0 ≤ 9223372036854775807) (hb : byteL l0 = true) (hbk : ∀ ad, A0 = some ad → 512 ≤ l0.length → ad.block < w.heap.size) :
  Calls Tryz.prog 5 #[.slice A0 l0.length c0] w fun e w' => e = .returned (.bool true) ∧ Below w.heap.size w w' := by
 have hu := Tryz.underlying22
 have huF := Tryz.underlying41
 obtain ⟨n0, hn0⟩ : ∃ n, l0.length = n := ⟨_, rfl⟩
 have HR0 := Lib.hid (And.intro hr0 (And.intro hc0 (And.intro hcm (And.intro hb hbk))))
 have HL := Lib.hid hn0
 have HG := Lib.hid hG
 have H6 := Lib.hid h6
 rw [hn0]
 by_cases q1 : 15000 < n0
 ·have d1 : decide ((15000 : Int) < (n0 : Int)) = true := by simp; omega
  clear hG h6 hr0 hc0 hcm hb hbk hn0 q1
  go_enter Tryz.func5, Tryz.ntmps5
  go_wp2_with fail
  refine (alive_calls _ HG.out H6.out).mono ?_
  rintro e w1 ⟨rfl, hb1⟩
  have HB1 := Lib.hid hb1
  clear hb1
  go_wp2_with fail
  go_ret
  exact ⟨rfl, HB1.out⟩
 have d1 : decide ((15000 : Int) < (n0 : Int)) = false := by simp; omega
 have HQ1 := Lib.hid (show n0 ≤ 15000 by omega)
 obtain ⟨N, hN⟩ : ∃ N, n0 / 512 = N := ⟨_, rfl⟩
 have HN := Lib.hid hN
 clear hG h6 hr0 hc0 hcm hb hbk hn0 q1 hN
 go_enter Tryz.func5, Tryz.ntmps5
 go_wp2_with fail
 refine (alive_calls _ HG.out H6.out).mono ?_
 rintro e w1 ⟨rfl, hb1⟩
 have HG1 := Lib.hid (HG.out.below hb1)
 have HB1 := Lib.hid hb1
 have H61 := Lib.hid (Nat.le_trans H6.out hb1.size)
 have HCUT := cut_calls A0 c0 l0 w1 (Kd.C_below HR0.out.1 hb1) HR0.out.2.1 HR0.out.2.2.1 (by have := HQ1.out; have := HL.out; omega) (fun ad e h5 => Nat.lt_of_lt_of_le (HR0.out.2.2.2.2 ad e h5) hb1.size)
 rw [HL.out, HN.out] at HCUT
 have HCUT := Lib.hid HCUT
 clear hb1
 go_wp2_with fail
 refine HCUT.out.mono ?_
 clear HCUT
 rintro e w2 ⟨v3, v4, rfl, hrow, hb2⟩
 obtain ⟨A5, c5, rfl, hc5, _⟩ := Kd.R_reads hrow
 rw [cutB_len] at hrow hc5 ⊢
 have HROW := Lib.hid hrow
 have HB2 := Lib.hid hb2
 clear hrow hb2 hc5
 go_wp2_with fail
 refine (new_calls _).mono ?_
 rintro e w3 ⟨rfl, hds3, hb3⟩
 have HT := Lib.hid (show OW w1 w3 w2.heap.size dZero (.slice none 0 0) (.slice none 0 0) (.slice none 0 0) (.slice A5 N c5) (cutB N l0) from
  ⟨hds3, HB2.out.size, fun k hk => by simp [Value.ownBlock] at hk, below_step HB2.out hb3, Kd.R_below HROW.out hb3⟩)
 clear hds3 hb3 HROW
 obtain ⟨P, hP⟩ : ∃ P, w2.heap.size = P := ⟨_, rfl⟩
 rw [hP] at HT
 simp only [hP]
 clear hP HB2
 go_wp2_with fail
 go_loopg [6, 7, 8] (N) (fun gk v6 v7 v8 wr => ∃ (x g lf : Int), v6 = .int .i64 lf ∧ v7 = .int .i64 g ∧ v8 = .int .i64 x ∧ Aside0 (∃ (i : Nat) (d : Dc) (pl pg pb : Value), x = (i : Int) ∧ g = 512 * (i : Int) ∧ lf = lft d ∧ i + gk = N ∧ RI i d ∧ CLP d ∧ OW w1 wr P d pl pg pb (.slice A5 N c5) (cutB N l0)))
 case atStart => exact ⟨0, 0, 0, rfl, rfl, rfl, ⟨0, dZero, _, _, _, rfl, rfl, rfl, by omega, zero_ri, ⟨rfl, rfl⟩, HT.out⟩⟩
 case round =>
  clear HT
  obtain ⟨x, g, lf, rfl, rfl, rfl, HM⟩ := hrel
  obtain ⟨i, d, pl, pg, pb, hx, hg, hlf, hn, hd, hcl, ht⟩ := HM.out
  cases gk with
  | zero =>
   have hlt : decide (x < (N : Int)) = false := by simp; omega
   have HBW := Lib.hid (below_step HB1.out ht.bel)
   clear hx hg hlf hn hd hcl ht HM
   go_wp2_with fail
   go_ret
   exact ⟨rfl, HBW.out⟩
  | succ kk =>
   have hi : i < N := by omega
   have h0' : (0 : Int) ≤ x := by omega
   have h1' : x < (N : Int) := by omega
   have hlt : decide (x < (N : Int)) = true := decide_eq_true h1'
   have hNs : N ≤ 29 := by have := HN.out; have := HQ1.out; omega
   have hLl : (cutB N l0).length = N := cutB_len N l0
   obtain ⟨B, hB⟩ : ∃ B, (cutB N l0).getD i [] = B := ⟨_, rfl⟩
   have hBm : B ∈ cutB N l0 := by
    rw [← hB, List.getD_eq_getElem?_getD, List.getElem?_eq_getElem (by rw [hLl]; exact hi)]
    exact List.getElem_mem _
   obtain ⟨hB5, hBb⟩ := cutB_at N l0 (by have := HN.out; have := HL.out; omega) B hBm
   have hBy : byteL B = true := byteL_iff.2 fun c hc => byteL_iff.1 HR0.out.2.2.2.1 c (hBb c hc)
   obtain ⟨ad, A2, c2, rfl, hcell, hc2, hC2, hsp, hlow⟩ := ht.at_ i (by rw [hLl]; exact hi)
   rw [hB] at hcell hc2 hC2
   rw [hB5] at hcell hc2
   have hxn : x.toNat = i := by omega
   have hw : wrap64 (x + 1) = ((i + 1 : Nat) : Int) := by rw [hx, show (i : Int) + 1 = ((i + 1 : Nat) : Int) by omega, w64n _ (by omega)]
   have hwg : wrap64 (g + 512) = 512 * ((i + 1 : Nat) : Int) := by rw [hg, show 512 * (i : Int) + 512 = ((512 * (i + 1) : Nat) : Int) by omega, w64n _ (by omega)]; omega
   obtain ⟨r, hr⟩ : ∃ r, blkC d B = r := ⟨_, rfl⟩
   have hrt := blk_right (n := i) (d := d) (by omega) hd B hB5 hBy
   have hcd := code_rg hd B
   rw [hr] at hrt hcd
   have hE : wrap64 r.2.2 = r.2.2 := by
    obtain ⟨c, hc⟩ := Int.eq_ofNat_of_zero_le hcd.1
    rw [hc, w64n _ (by omega)]
   have HW := Lib.hid (And.intro hw hwg)
   have HNN := Lib.hid (show x = (i : Int) ∧ i + (kk + 1) = N ∧ N ≤ 29 ∧ g = 512 * (i : Int) ∧ lf = lft d from ⟨hx, hn, hNs, hg, hlf⟩)
   have HRI := Lib.hid hd
   have HCL := Lib.hid hcl
   have HRT := Lib.hid hrt
   have HT := Lib.hid ht
   have HBB := Lib.hid (And.intro hB5 (And.intro hBy hr))
   have HCC := Lib.hid (And.intro hc2 (And.intro hC2 (And.intro hsp hlow)))
   clear hx hg hlf hn hd hcl ht HM hi hNs hLl hc2 hC2 hsp hlow hB hBm hB5 hBb hBy hr hw hwg hrt hcd
   go_wp2_with fail
   refine (block512 HT.out.dsp.start (HT.out.dg HG1.out H61.out) (HT.out.big H61.out) (HRI.out.dn.di (by have := HNN.out; omega)) A2 c2 B HCC.out.2.1 HCC.out.1 HBB.out.1 HBB.out.2.1 HCC.out.2.2.1 HBB.out.2.2).mono ?_
   rintro e w5 ⟨cs, pl2, pg2, pb2, rfl, he, hk⟩
   have HT5 := Lib.hid (HT.out.step hk)
   clear hk hcell
   by_cases hz : r.2.2 = 0
   ·obtain ⟨hev, hnx⟩ := HRT.out.2 hz
    have hdm := (blk_keep (by have := HNN.out; omega) HRI.out.dn B HBB.out.1 HBB.out.2.1).dm
    have hcl2 := blk_clean HRI.out.dn HCL.out B HBB.out.2.1
    rw [HBB.out.2.2] at hdm hcl2
    have hn29 : i + 1 ≤ 29 := by have := HNN.out; omega
    have hbl : over_Bytes.f 1000000 r.1.p.loc = some ((sumB r.1.p.loc : Nat) : Int) ∧ over_Bytes.f 1000000 r.1.p.glo = some ((sumB r.1.p.glo : Nat) : Int) := by
     have hl : r.1.p.loc.length ≤ 14848 := by have := hdm.lo; omega
     have hg : r.1.p.glo.length ≤ 435000 := by have := hdm.gl; omega
     have s1 := sumB_le 14848 r.1.p.loc (fun x hx => by have := hdm.sz x (List.mem_append_right _ hx); omega)
     have s2 := sumB_le 14848 r.1.p.glo (fun x hx => by have := hdm.sz x (List.mem_append_left _ hx); omega)
     exact ⟨obytes_is _ (by omega) (by omega) _ (by omega), obytes_is _ (by omega) (by omega) _ (by omega)⟩
    obtain ⟨H, hH⟩ : ∃ H, heldV r.1 ((sumB r.1.p.loc : Nat) : Int) ((sumB r.1.p.glo : Nat) : Int) = H := ⟨_, rfl⟩
    obtain ⟨G2, hG2⟩ : ∃ G2, 512 * ((i + 1 : Nat) : Int) = G2 := ⟨_, rfl⟩
    have hgw : wrap64 (g + 512) = G2 := by rw [HW.out.2, hG2]
    have hgx : wrap64 (262144 + G2) = 262144 + G2 := by
     rw [← hG2, show 262144 + 512 * ((i + 1 : Nat) : Int) = ((262144 + 512 * (i + 1) : Nat) : Int) by omega, w64n _ (by omega)]
    have hHr : 0 ≤ H ∧ H ≤ 262144 + G2 ∧ (r.2.1 = .fin → H = 0) := by
     rcases hnx with e | e
     ·have h4 : r.1.st = 4 := by have := blk_fin (d := d) (l := B) (by rw [HBB.out.2.2]; exact e); rw [HBB.out.2.2] at this; exact this
      have : H = 0 := by rw [← hH]; unfold heldV; rw [h4]; rfl
      exact ⟨by omega, by omega, fun _ => this⟩
     ·have := e.held hn29
      rw [hH] at this
      refine ⟨this.1, by omega, fun e2 => ?_⟩
      have h4 : r.1.st = 4 := by have := blk_fin (d := d) (l := B) (by rw [HBB.out.2.2]; exact e2); rw [HBB.out.2.2] at this; exact this
      rcases e.st with z | z | z | z <;> omega
    have hh0 : decide (H < 0) = false := decide_eq_false (by omega)
    have hh1 : decide (262144 + G2 < H) = false := decide_eq_false (by omega)
    have hzb : (r.2.2 == 0) = true := by simpa using hz
    have HBL := Lib.hid hbl
    have HH := Lib.hid (And.intro hH hHr)
    have HNX := Lib.hid hnx
    have HCL2 := Lib.hid hcl2
    have HEV := Lib.hid hev
    have HG2 := Lib.hid hG2
    clear hdm hn29 hbl hH hHr hnx hcl2 hev hE
    rw [hz]
    cases hev : r.2.1 with
    | none =>
     rw [hev] at he
     obtain rfl : cs = evA := he
     have hl : lft d = 0 ∧ lft r.1 = 0 := by have := HEV.out; unfold EvOk at this; rw [hev] at this; exact this
     have hri : RI (i + 1) r.1 := by
      rcases HNX.out with e | e
      ·rw [hev] at e; cases e
      ·exact e
     obtain rfl : lf = 0 := by have := HNN.out; omega
     have HL2 := Lib.hid (And.intro hl.2 hri)
     have hv5 : ∀ W : World, Below w5.heap.size w5 W → True := fun _ _ => trivial
     clear hl hri hev
     go_wp2_with ((with_reducible refine wpList_store_fresh rfl 35 (.tmp 9) (.tmp 36) rfl evA evA 35 rfl rfl rfl (by kernel_rfl) (by kernel_rfl) ?_); intro w6 bx6 hb6; have HX6 := Lib.hid bx6; have HT6 := Lib.hid (HT5.out.below hb6); have HV6 := Lib.hid (hv5 w6 hb6); clear bx6 hb6)
     have hf := held_calls HT6.out.dsp.start 1000000 _ _ HBL.out.1 HBL.out.2
     rw [HH.out.1] at hf
     refine hf.mono ?_
     clear hf
     rintro e w7 ⟨rfl, hk⟩
     have HX7 := Lib.hid (blk_chg HT6.out.dsp hk.ch HX6.out rfl)
     have HV7 := Lib.hid (True.intro)
     have HT7 := Lib.hid (HT6.out.step hk)
     clear hk
     go_wp2_with fail
     have hf := held_calls HT7.out.dsp.start 1000000 _ _ HBL.out.1 HBL.out.2
     rw [HH.out.1] at hf
     refine hf.mono ?_
     clear hf
     rintro e w8 ⟨rfl, hk⟩
     have HX8 := Lib.hid (blk_chg HT7.out.dsp hk.ch HX7.out rfl)
     have HV8 := Lib.hid (True.intro)
     have HT8 := Lib.hid (HT7.out.step hk)
     clear hk
     have k0 := blk_cell HX8.out 0
     go_wp2_with fail
     go_roundg kk
     case measure => omega
     case rel => exact ⟨_, _, _, rfl, rfl, rfl, ⟨i + 1, r.1, _, _, _, HW.out.1, HG2.out.symm, HL2.out.1.symm, by have := HNN.out; omega, HL2.out.2, HCL2.out, HT8.out⟩⟩
    | item h =>
     rw [hev] at he
     obtain ⟨ef1, ef2, ef3⟩ := ev_form he
     obtain ⟨vd, rfl, hvd⟩ := he
     obtain ⟨Ad, cd, rfl, hcd, _⟩ := Kd.R_reads hvd
     have hl : lft d = 0 ∧ lft r.1 = h.f6 := by have := HEV.out; unfold EvOk at this; rw [hev] at this; exact this
     have hri : RI (i + 1) r.1 := by
      rcases HNX.out with e | e
      ·rw [hev] at e; cases e
      ·exact e
     obtain rfl : lf = 0 := by have := HNN.out; omega
     obtain ⟨i1, i2, i3, i4⟩ := blk_item (d := d) (l := B) (h := h) (by rw [HBB.out.2.2]; exact hev)
     have hsz : ∀ x ∈ d.p.glo ++ d.p.loc, x.f0.size + x.f1.size ≤ 14848 := fun x hx => by have := HRI.out.dn.dm.sz x hx; have := HNN.out; omega
     have hw0 := item_right B HBB.out.1 HBB.out.2.1 i1 i2 d.p (HRI.out.dn.di (by have := HNN.out; omega)).pr (fun x hx => by have := hsz x hx; omega) ⟨HRI.out.nm, HCL.out.1⟩ ⟨HRI.out.lk, HCL.out.2⟩ i3
     have hf1 := item_name hw0
     have hmem := fun x hx => hsz x (item_mem B (getR B).1 d.p x hx)
     have hlen := item_f12 B (getR B).1 d.p
     rw [← i4] at hw0 hf1 hmem hlen
     have hlen2 : h.f12.length ≤ 500000 := by have := HRI.out.dn.dm.gl; have := HRI.out.dn.dm.lo; have := HNN.out; omega
     have hwr := wrong_prog h.f0 h.f1 h.f2 h.f3 h.f4 h.f5 h.f6 h.f7.f0 h.f7.f1 h.f8 h.f9 h.f10 h.f11 h.f12 100000 ⟨by omega, fun x hx => by have := hmem x hx; omega⟩ (by omega) 1000000 (by omega)
     rw [hw0] at hwr
     have HE1 := Lib.hid ef1
     have HE2 := Lib.hid ef2
     have HE3 := Lib.hid ef3
     have HL2 := Lib.hid (And.intro hl.2.symm hri)
     have HWR := Lib.hid hwr
     have hv5 : ∀ W : World, Below w5.heap.size w5 W → RP W (.slice Ad h.f12.length cd) h.f12 := fun W hb => Kd.R_below hvd hb
     clear hl hri hev hvd hcd ef1 ef2 ef3 i1 i2 i3 i4 hsz hw0 hf1 hmem hlen hlen2 hwr
     go_wp2_with ((with_reducible refine wpList_store_fresh rfl 35 (.tmp 9) (.tmp 36) rfl evA (evI h (.slice Ad h.f12.length cd)) 35 rfl rfl HE1.out HE2.out HE3.out ?_); intro w6 bx6 hb6; have HX6 := Lib.hid bx6; have HT6 := Lib.hid (HT5.out.below hb6); have HV6 := Lib.hid (hv5 w6 hb6); clear hv5 bx6 hb6)
     have hf := held_calls HT6.out.dsp.start 1000000 _ _ HBL.out.1 HBL.out.2
     rw [HH.out.1] at hf
     refine hf.mono ?_
     clear hf
     rintro e w7 ⟨rfl, hk⟩
     have HX7 := Lib.hid (blk_chg HT6.out.dsp hk.ch HX6.out rfl)
     have HV7 := Lib.hid (R_chg HV6.out HT6.out.dsp hk.ch pair_ne)
     have HT7 := Lib.hid (HT6.out.step hk)
     clear hk
     go_wp2_with fail
     have hf := held_calls HT7.out.dsp.start 1000000 _ _ HBL.out.1 HBL.out.2
     rw [HH.out.1] at hf
     refine hf.mono ?_
     clear hf
     rintro e w8 ⟨rfl, hk⟩
     have HX8 := Lib.hid (blk_chg HT7.out.dsp hk.ch HX7.out rfl)
     have HV8 := Lib.hid (R_chg HV7.out HT7.out.dsp hk.ch pair_ne)
     have HT8 := Lib.hid (HT7.out.step hk)
     clear hk
     have k0 := blk_cell HX8.out 0
     have k1 := blk_cell HX8.out 1
     have k2 := blk_cell HX8.out 2
     have k3 := blk_cell HX8.out 3
     have k4 := blk_cell HX8.out 4
     have k5 := blk_cell HX8.out 5
     have k6 := blk_cell HX8.out 6
     have k7 := blk_cell HX8.out 7
     have k8 := blk_cell HX8.out 8
     have k9 := blk_cell HX8.out 9
     have k10 := blk_cell HX8.out 10
     have k11 := blk_cell HX8.out 11
     have k12 := blk_cell HX8.out 12
     have k13 := blk_cell HX8.out 13
     have k14 := blk_cell HX8.out 14
     go_wp2_with fail
     refine (item_Wrong.calls 1000000 h.f0 h.f1 h.f2 h.f3 h.f4 h.f5 h.f6 h.f7.f0 h.f7.f1 h.f8 h.f9 h.f10 h.f11 Ad cd h.f12 0 _ (Kd.R_reads' HV8.out).2.2 (Kd.R_reads' HV8.out).2.1 (HG1.out.below HT8.out.bel) HWR.out).mono ?_
     rintro e w9 ⟨rfl, hb9⟩
     have HT9 := Lib.hid (HT8.out.below hb9)
     have k7b := blk_cell (blk_below HX8.out hb9) 7
     clear hb9 k0 k1 k2 k3 k4 k5 k6 k7 k8 k9 k10 k11 k12 k13 k14
     go_wp2_with fail
     go_roundg kk
     case measure => omega
     case rel => exact ⟨_, _, _, rfl, rfl, rfl, ⟨i + 1, r.1, _, _, _, HW.out.1, HG2.out.symm, HL2.out.1, by have := HNN.out; omega, HL2.out.2, HCL2.out, HT9.out⟩⟩
    | data m =>
     rw [hev] at he
     obtain ⟨ef1, ef2, ef3⟩ := ev_form he
     obtain ⟨vd, rfl, hvd⟩ := he
     obtain ⟨Ad, cd, rfl, hcd, _⟩ := Kd.R_reads hvd
     have hl : 1 ≤ m.length ∧ m.length ≤ 512 ∧ (m.length : Int) ≤ lft d ∧ (m.length < 512 → (m.length : Int) = lft d) ∧ lft r.1 = lft d - m.length := by have := HEV.out; unfold EvOk at this; rw [hev] at this; exact this
     have hri : RI (i + 1) r.1 := by
      rcases HNX.out with e | e
      ·rw [hev] at e; cases e
      ·exact e
     obtain ⟨hl1, hl2, hl3, hl4, hl5⟩ := hl
     have hlf : lf = lft d := HNN.out.2.2.2.2
     have e1 : decide ((m.length : Int) < 1) = false := decide_eq_false (by omega)
     have e2 : decide ((512 : Int) < (m.length : Int)) = false := decide_eq_false (by omega)
     have e3 : decide (lf < (m.length : Int)) = false := decide_eq_false (by omega)
     have e5 : wrap64 (lf - (m.length : Int)) = lf - (m.length : Int) := by
      obtain ⟨c, hc⟩ := Int.eq_ofNat_of_zero_le (show 0 ≤ lf - (m.length : Int) by omega)
      have hb : lf ≤ 9223372036854775807 := by
       rw [hlf]
       unfold lft
       split
       ·rename_i h2
        exact (HRI.out.dn.two h2).2
       ·decide
      rw [hc, w64n _ (by omega)]
     have HE1 := Lib.hid ef1
     have HE2 := Lib.hid ef2
     have HE3 := Lib.hid ef3
     have HL2 := Lib.hid (And.intro (show wrap64 (lf - (m.length : Int)) = lft r.1 by rw [e5]; omega) hri)
     clear e5
     have HQ4 := Lib.hid (show (m.length : Int) < 512 → (m.length : Int) = lf from fun h => by have := hl4 (by omega); omega)
     have hv5 : ∀ W : World, Below w5.heap.size w5 W → True := fun _ _ => trivial
     clear hl1 hl2 hl3 hl4 hl5 hlf hri hev hvd hcd ef1 ef2 ef3
     go_wp2_with ((with_reducible refine wpList_store_fresh rfl 35 (.tmp 9) (.tmp 36) rfl evA (evD (.slice Ad m.length cd)) 35 rfl rfl HE1.out HE2.out HE3.out ?_); intro w6 bx6 hb6; have HX6 := Lib.hid bx6; have HT6 := Lib.hid (HT5.out.below hb6); have HV6 := Lib.hid (hv5 w6 hb6); clear bx6 hb6)
     have hf := held_calls HT6.out.dsp.start 1000000 _ _ HBL.out.1 HBL.out.2
     rw [HH.out.1] at hf
     refine hf.mono ?_
     clear hf
     rintro e w7 ⟨rfl, hk⟩
     have HX7 := Lib.hid (blk_chg HT6.out.dsp hk.ch HX6.out rfl)
     have HV7 := Lib.hid (True.intro)
     have HT7 := Lib.hid (HT6.out.step hk)
     clear hk
     go_wp2_with fail
     have hf := held_calls HT7.out.dsp.start 1000000 _ _ HBL.out.1 HBL.out.2
     rw [HH.out.1] at hf
     refine hf.mono ?_
     clear hf
     rintro e w8 ⟨rfl, hk⟩
     have HX8 := Lib.hid (blk_chg HT7.out.dsp hk.ch HX7.out rfl)
     have HV8 := Lib.hid (True.intro)
     have HT8 := Lib.hid (HT7.out.step hk)
     clear hk
     have k0 := blk_cell HX8.out 0
     have k15 := blk_cell HX8.out 15
     by_cases h512 : (m.length : Int) < 512
     ·have e4 : decide ((m.length : Int) < 512) = true := decide_eq_true h512
      have e6 : ((m.length : Int) == lf) = true := by rw [HQ4.out h512]; exact beq_self_eq_true _
      clear h512
      go_wp2_with fail
      go_roundg kk
      case measure => omega
      case rel => exact ⟨_, _, _, rfl, rfl, rfl, ⟨i + 1, r.1, _, _, _, HW.out.1, HG2.out.symm, HL2.out.1, by have := HNN.out; omega, HL2.out.2, HCL2.out, HT8.out⟩⟩
     ·have e4 : decide ((m.length : Int) < 512) = false := decide_eq_false h512
      clear h512
      go_wp2_with fail
      go_roundg kk
      case measure => omega
      case rel => exact ⟨_, _, _, rfl, rfl, rfl, ⟨i + 1, r.1, _, _, _, HW.out.1, HG2.out.symm, HL2.out.1, by have := HNN.out; omega, HL2.out.2, HCL2.out, HT8.out⟩⟩
    | fin =>
     rw [hev] at he
     obtain rfl : cs = evE := he
     have hl : lft d = 0 := by have := HEV.out; unfold EvOk at this; rw [hev] at this; exact this
     obtain rfl : lf = 0 := by have := HNN.out; omega
     have hH0 : H = 0 := HH.out.2.2.2 hev
     have hHb : (H == 0) = true := by rw [hH0]; rfl
     have hv5 : ∀ W : World, Below w5.heap.size w5 W → True := fun _ _ => trivial
     clear hl hev hH0
     go_wp2_with ((with_reducible refine wpList_store_fresh rfl 35 (.tmp 9) (.tmp 36) rfl evA evE 35 rfl rfl rfl (by kernel_rfl) (by kernel_rfl) ?_); intro w6 bx6 hb6; have HX6 := Lib.hid bx6; have HT6 := Lib.hid (HT5.out.below hb6); have HV6 := Lib.hid (hv5 w6 hb6); clear bx6 hb6)
     have hf := held_calls HT6.out.dsp.start 1000000 _ _ HBL.out.1 HBL.out.2
     rw [HH.out.1] at hf
     refine hf.mono ?_
     clear hf
     rintro e w7 ⟨rfl, hk⟩
     have HX7 := Lib.hid (blk_chg HT6.out.dsp hk.ch HX6.out rfl)
     have HV7 := Lib.hid (True.intro)
     have HT7 := Lib.hid (HT6.out.step hk)
     clear hk
     go_wp2_with fail
     have hf := held_calls HT7.out.dsp.start 1000000 _ _ HBL.out.1 HBL.out.2
     rw [HH.out.1] at hf
     refine hf.mono ?_
     clear hf
     rintro e w8 ⟨rfl, hk⟩
     have HX8 := Lib.hid (blk_chg HT7.out.dsp hk.ch HX7.out rfl)
     have HV8 := Lib.hid (True.intro)
     have HT8 := Lib.hid (HT7.out.step hk)
     clear hk
     have k0 := blk_cell HX8.out 0
     go_wp2_with fail
     have hf := held_calls HT8.out.dsp.start 1000000 _ _ HBL.out.1 HBL.out.2
     rw [HH.out.1] at hf
     refine hf.mono ?_
     clear hf
     rintro e w9 ⟨rfl, hk⟩
     have HX9 := Lib.hid (blk_chg HT8.out.dsp hk.ch HX8.out rfl)
     have HV9 := Lib.hid (True.intro)
     have HT9 := Lib.hid (HT8.out.step hk)
     clear hk
     go_wp2_with fail
     go_ret
     exact ⟨rfl, below_step HB1.out HT9.out.bel⟩
   ·have hfo := HRT.out.1 hz
    obtain ⟨f1, f2, f3, f4⟩ := hfo
    obtain ⟨ef1, ef2, ef3⟩ := ev_form he
    have hz0 : (r.2.2 == 0) = false := by simpa using hz
    obtain ⟨E, hEE⟩ : ∃ E, r.2.2 = E := ⟨_, rfl⟩
    obtain ⟨F, hFF⟩ : ∃ F, r.1.fb = F := ⟨_, rfl⟩
    obtain ⟨K, hKK⟩ : ∃ K, r.1.blocks = K := ⟨_, rfl⟩
    rw [hEE] at f1 hE hz0 hz ⊢
    rw [hFF] at f2 f3
    rw [hKK] at f4
    have hfd0 : ∀ W : World, (Instr.field 41 (.agg (fltA E F)) 0).run Tryz.prog W = .ok (.int .u8 E) W := fun _ => by kernel_rfl
    have hfd1 : ∀ W : World, (Instr.field 41 (.agg (fltA E F)) 1).run Tryz.prog W = .ok (.int .i64 F) W := fun _ => by kernel_rfl
    have hd0 : decide (0 ≤ F) = true := decide_eq_true f2
    have hd1 : decide (F < K) = true := decide_eq_true (by omega)
    have HE1 := Lib.hid ef1
    have HE2 := Lib.hid ef2
    have HE3 := Lib.hid ef3
    have HF := Lib.hid (And.intro f1 (And.intro hFF hKK))
    clear he ef1 ef2 ef3 f1 f2 f3 f4 hEE hFF hKK
    go_wp2_with ((with_reducible refine wpList_store_fresh rfl 35 (.tmp 9) (.tmp 36) rfl evA cs 35 rfl rfl HE1.out HE2.out HE3.out ?_); intro w6 bx6 hb6; have HX6 := Lib.hid bx6; have HT6 := Lib.hid (HT5.out.below hb6); clear bx6 hb6)
    have hf := fault_calls HT6.out.dsp.start
    rw [HF.out.1, HF.out.2.1] at hf
    refine hf.mono ?_
    clear hf
    rintro e w7 ⟨rfl, hk⟩
    have HT7 := Lib.hid (HT6.out.step hk)
    clear hk
    go_wp2_with fail
    have hf := fault_calls HT7.out.dsp.start
    rw [HF.out.1, HF.out.2.1] at hf
    refine hf.mono ?_
    clear hf
    rintro e w8 ⟨rfl, hk⟩
    have HT8 := Lib.hid (HT7.out.step hk)
    clear hk
    go_wp2_with fail
    have hf := fault_calls HT8.out.dsp.start
    rw [HF.out.1, HF.out.2.1] at hf
    refine hf.mono ?_
    clear hf
    rintro e w9 ⟨rfl, hk⟩
    have HT9 := Lib.hid (HT8.out.step hk)
    clear hk
    go_wp2_with fail
    have hf := blocks_calls HT9.out.dsp
    rw [HF.out.2.2] at hf
    refine hf.mono ?_
    clear hf
    rintro e w10 ⟨rfl, rfl⟩
    go_wp2_with fail
    go_ret
    exact ⟨rfl, below_step HB1.out HT9.out.bel⟩
end Go.Proofs.YtddhkfdfhbpblaaGreatDoor.P
namespace Go.Proofs.YtddhkfdfhbpblaaGreatDoor
open Go.ChangeShapes Go.WideShapes Go.RowKit
theorem lays260 : Go.Proofs.Lays.n260 Tryz.prog Tryz.lays197_ren where
 mixed := Tryz.lays197.mixed
 f260 := Tryz.lays197.f260
 t0 := Tryz.lays197.t0
 a0 := Tryz.lays197.a0
 z0 := Tryz.lays197.z0
 v0 := Tryz.lays197.v0
 t3 := Tryz.lays197.t3
 a3 := Tryz.lays197.a3
 z3 := Tryz.lays197.z3
 v3 := Tryz.lays197.v3
 t4 := Tryz.lays197.t4
 a4 := Tryz.lays197.a4
 z4 := Tryz.lays197.z4
 v4 := Tryz.lays197.v4
 t5 := Tryz.lays197.t5
 a5 := Tryz.lays197.a5
 z5 := Tryz.lays197.z5
 v5 := Tryz.lays197.v5
 t9 := Tryz.lays197.t9
 a9 := Tryz.lays197.a9
 z9 := Tryz.lays197.z9
 v9 := Tryz.lays197.v9
 t21 := Tryz.lays197.t21
 a21 := Tryz.lays197.a21
 z21 := Tryz.lays197.z21
 v21 := Tryz.lays197.v21
 t46 := Tryz.lays197.t46
 a46 := Tryz.lays197.a46
 z46 := Tryz.lays197.z46
 v46 := Tryz.lays197.v46
 t119 := Tryz.lays197.t119
 a119 := Tryz.lays197.a119
 z119 := Tryz.lays197.z119
 t138 := Tryz.lays197.t138
 a138 := Tryz.lays197.a138
 z138 := Tryz.lays197.z138
 v138 := Tryz.lays197.v138
 t139 := Tryz.lays197.t139
 a139 := Tryz.lays197.a139
 z139 := Tryz.lays197.z139
 v139 := Tryz.lays197.v139
 g3 := Tryz.lays197.g3
 g4 := Tryz.lays197.g4
theorem u8extra : Go.Proofs.U8Extra Tryz.prog Tryz.lays197_ren where
 n3 := by kernel_rfl
 n4 := by kernel_rfl
 y3 := by kernel_rfl
 y4 := by kernel_rfl
 c5 := by kernel_rfl
 c119 := by kernel_rfl
 c138 := by kernel_rfl
theorem first_is : Go.Pinned.utf8First = Lib.firstData := by kernel_rfl
theorem accept_is : (Rows.laid_unicode_utf8_acceptRanges : DataW Unit) = Lib.acceptData := by kernel_rfl
theorem pow_is : (Rows.laid_internal_strconv_uint64pow10 : DataW Unit) = Lib.tabData .u64 Lib.pow10Tab := by kernel_rfl
theorem star : "*" ++ "errors.errorString" = "*errors.errorString" := by decide
theorem errRow : ∀ u, Tryz.prog.typeName? 3 u = some "*errors.errorString" → u = 284 := fun u h =>
 typeName_ptr_named (nm := "errors.errorString") (by rw [star]; kernel_rfl) (by kernel_rfl) (by decide) u (by rw [star]; exact h)
theorem glob_of {W : World} (h : laidMetH Tryz.prog Rows.stepRightRow.laid W) (hs : W.ShapedOpen Tryz.prog) : Glob W := by
 have h0 : laidMet Tryz.prog [("math/bits.deBruijn32tab", Rows.laid_math_bits_deBruijn32tab), ("math/bits.deBruijn64tab", Rows.laid_math_bits_deBruijn64tab), ("internal/strconv.uint64pow10", Rows.laid_internal_strconv_uint64pow10), ("unicode/utf8.acceptRanges", Rows.laid_unicode_utf8_acceptRanges), ("strconv.ErrRange", Rows.laid_strconv_ErrRange), ("strconv.ErrSyntax", Rows.laid_strconv_ErrSyntax), ("unicode/utf8.first", Rows.laid_unicode_utf8_first)] W := h
 refine ⟨?_, ?_, ?_, ?_, ?_⟩
 ·have h2 := laidMet.tail (laidMet.tail h0)
  rw [pow_is] at h2
  exact Lib.tabIs_of_head (n := Lib.pow10Tab.length) (t := 294) (e := 213) (g := 5) (by kernel_rfl) (by kernel_rfl) (by kernel_rfl) (by kernel_rfl) (by kernel_rfl) (by kernel_rfl) h2
 ·have r1 := Lib.laidMet.reads h0 (n := "unicode/utf8.first") (d := Rows.laid_unicode_utf8_first) (by simp)
  have r2 := Lib.laidMet.reads h0 (n := "unicode/utf8.acceptRanges") (d := Rows.laid_unicode_utf8_acceptRanges) (by simp)
  rw [show Rows.laid_unicode_utf8_first = Lib.firstData from first_is] at r1
  rw [accept_is] at r2
  exact Go.Proofs.utf8Tabs_of_reads lays260 u8extra r1 r2
 ·obtain ⟨a, s, hv, _⟩ := laid_sentinel (tp := 284) (te := 286) (ti := 230) (ts := 9) (g := 3) (laidMet.tail (laidMet.tail (laidMet.tail (laidMet.tail (laidMet.tail h0))))) (by kernel_rfl) (by kernel_rfl) Tryz.underlying230 errRow Tryz.underlying284 Tryz.underlying286 rfl rfl Tryz.underlying9 (by kernel_rfl) (by kernel_rfl)
  exact ⟨_, _, World.var?_cell (g := 3) (by kernel_rfl) hv 0⟩
 ·obtain ⟨a, s, hv, _⟩ := laid_sentinel (tp := 284) (te := 286) (ti := 230) (ts := 9) (g := 4) (laidMet.tail (laidMet.tail (laidMet.tail (laidMet.tail h0)))) (by kernel_rfl) (by kernel_rfl) Tryz.underlying230 errRow Tryz.underlying284 Tryz.underlying286 rfl rfl Tryz.underlying9 (by kernel_rfl) (by kernel_rfl)
  exact ⟨_, _, World.var?_cell (g := 4) (by kernel_rfl) hv 0⟩
 ·exact Go.Proofs.cell_of_shapedOpen_int (g := 0) (t := 3) (zero := #[.int .i64 0]) hs (of_decide_eq_true (by kernel_rfl)) (by kernel_rfl) rfl (by kernel_rfl) (by kernel_rfl) Tryz.underlying3
end Go.Proofs.YtddhkfdfhbpblaaGreatDoor
namespace Go.Proofs.YtddhkfdfhbpblaaGreatDoor.stepRight
open Go.ChangeShapes Go.WideShapes Go.ChangeAt Go.RowKit Go.Proofs.YtddhkfdfhbpblaaGreatDoorW.PrintWords Go.Proofs.YtddhkfdfhbpblaaGreatDoorW.PrintLast Go.Proofs.YtddhkfdfhbpblaaGreatDoorW.PrintMore
open Go.Proofs.YtddhkfdfhbpblaaGreatDoor.P
theorem own : ownKnob Tryz.prog.godebug = none := by kernel_rfl
theorem laidOut : laidOutB Tryz.prog = true := by kernel_rfl
theorem six {W : World} (h : Glob W) : 6 ≤ W.heap.size := var_lt glob_p10 h.p10
theorem open_bytes {H : Type} {enc : TypeId × Value → H} {W : World} {fuel : Nat} {v : Value} {x : DataW H × List MemPlace} (h : DataW.trod enc Tryz.prog W 0 (fun _ => true) true fuel 22 [v] = some x) :
  ∃ (A : Option Addr) (m : Nat) (d : List Int), v = .slice A d.length m ∧ d.length ≤ m ∧ m ≤ 9223372036854775807 ∧ Kd.C kB W A d.length d ∧ byteL d = true ∧ ∀ ad, A = some ad → 512 ≤ d.length → ad.block < W.heap.size := by
 rcases open_ints Tryz.underlying22 Tryz.underlying5 (by kernel_rfl) h with ⟨hc, _⟩ | ⟨a, len, cap, zs, hc, _, hl, hm, hz, _, hcell, hwf⟩
 ·injection hc with hc _
  subst hc
  exact ⟨none, 0, [], rfl, Nat.le_refl _, by decide, ⟨rfl, by decide, fun h => absurd h (by decide)⟩, rfl, fun _ e => by cases e⟩
 ·injection hc with hc _
  subst hc
  have hml : maxLen = 9223372036854775807 := rfl
  have hlz : len ≤ zs.length := by rw [hz]; split <;> omega
  have hlen : (zs.take len).length = len := by rw [List.length_take]; omega
  refine ⟨some a, cap, zs.take len, by rw [hlen], by rw [hlen]; exact hl, by omega, ?_, ?_, ?_⟩
  ·rw [hlen]
   refine Kd.C_of_reads (d := (0 : Int)) (h1 := fun _ => rfl) ?_
   refine ⟨hlen, by omega, fun _ => ⟨a, rfl, fun j hj => ?_⟩⟩
   rw [hcell j (by omega), List.getD_eq_getElem?_getD, List.getD_eq_getElem?_getD, List.getElem?_take, if_pos hj]
  ·refine byteL_iff.2 fun c hc => ?_
   have := hwf c (List.mem_of_mem_take hc)
   simp [Lit.wf] at this
   have e1 : IntKind.u8.min = 0 := rfl
   have e2 : IntKind.u8.max = 255 := rfl
   omega
  ·intro ad e h5
   injection e with e
   subst e
   have h0 := hcell 0 (by omega)
   have := World.block_lt_of_cell? W _ h0
   have hb : (a.add 0).block = a.block := by unfold Addr.add; split <;> rfl
   rwa [hb] at this
set_option maxRecDepth 100000 in
set_option maxHeartbeats 1600000 in
theorem contract (H : Type) (enc : TypeId × Value → H) (W : World) (base : Nat) (args : Array Value) (ds gs : List (DataW H)) (before : List MemPlace)
  (hval : ∀ (j : Nat) t v, Tryz.f5.params[j]? = some t → args[j]? = some v → Value.okWide Tryz.prog W .any base t v)
  (hW : DataW.Whole enc Tryz.prog Tryz.f5.params.toList Rows.stepRightSpec.vars false W args.toList ds gs before)
  (hL : laidMetH Tryz.prog Rows.stepRightRow.laid W) (hS : W.ShapedOpen Tryz.prog) :
  Calls Tryz.prog 5 args W fun e W' => ∃ v, e = .returned v ∧ Rows.stepRightSpec.post enc Tryz.prog Tryz.f5 false true false false W args v W' := by
 have hW' := hW
 obtain ⟨p, q, hA0, hV, rfl, hfz, hnd⟩ := hW
 have hA : DataW.TrodAll enc Tryz.prog W 0 (fun _ => true) true Tryz.f5.params.toList args.toList ds p := hA0
 rw [Tryz.params5] at hA hval
 obtain ⟨v0, vs0, d0, ds0, p0, q0, hargs, rfl, rfl, h0, r0⟩ := trodAll_cons hA
 obtain ⟨rfl, rfl, rfl⟩ := trodAll_nil r0
 obtain rfl : args = #[v0] := by cases args; simp_all
 obtain ⟨rfl, rfl⟩ := trodVars_none hV
 obtain ⟨a0, len0, cap0, rfl⟩ := okWide_slice Tryz.underlying22 (hval 0 22 v0 rfl rfl)
 have h0k := h0
 obtain ⟨fuel, hf⟩ := h0
 clear hA0
 simp only [List.append_nil] at hW'
 have hlt : ∀ x ∈ p0, x.block < W.heap.size := fun x hx => by simpa using hW'.lt x hx
 have hback0 : ∀ (W' : World), Below W.heap.size W W' → DataW.Trod enc Tryz.prog W' 0 (fun b => decide (b < W.heap.size)) true 22 (.slice a0 len0 cap0) d0 p0 :=
  fun W' hn => Below.trod laidOut (by kernel_rfl) (of_decide_eq_true (by kernel_rfl)) h0k hn hlt
 obtain ⟨A0, m0, l0, e0, le0, mx0, C0, by0, bk0⟩ := open_bytes (v := .slice a0 len0 cap0) hf
 injection e0 with x0 y0 z0
 subst x0 y0 z0
 have hG := glob_of hL hS
 have hw := right_calls a0 cap0 l0 W hG (six hG) C0 le0 mx0 by0 bk0
 refine hw.mono fun e W' ⟨he, hg⟩ => ?_
 subst he
 exact ⟨_, rfl, _, _, _, [], _, [], hW', (trodAll_cons_mk (shut_bool Tryz.underlying4 _) trodAll_mk0), (trodAll_cons_mk (hback0 W' hg) trodAll_mk0), rfl, hg.frame _, fun h => by cases h⟩
end Go.Proofs.YtddhkfdfhbpblaaGreatDoor.stepRight
