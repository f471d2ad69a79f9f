/- Joined texts: Scan. What each proves stands at its head; no conditions beside those in its theorems. -/
import Derived.Recover
import Derived.Deep.MidRow
import Derived.Deep.WholeRow
import Derived.Shelf.SlMaps.Clone
import Derived.Test.YtfefeepljbfcdaaGreatPjBC
import Derived.Test.YtfefeepljbfcdaaGreatPjBJ
/- Layer 1 (pack): Scan of the shape "bq". -/
namespace Go.Proofs.YtfefeepljbfcdaaGreat
open Go.RowKit Go.Lib F64
set_option linter.unusedSimpArgs false
set_option linter.unusedVariables false
attribute [local go_sem] run_store_float
attribute [local go_sem low] EW.cellN EW.frozN alloc_cell_or alloc_froz_or EW.cellF EW.frozF EW.cell1 EW.froz1
attribute [local go_sem] relAt relUpon relAtT relUponT
attribute [local go_sem low] EW.cellO EW.frozO
def valC (n : Int) (x : Int) (s : ByteArray) : List Value := [.int .i64 n, .int .u64 x, .string s]
def valZ : List Value := valC 0 0 ⟨#[]⟩
theorem RdG.bad_ {w : World} {b : Nat} {r : Rd} (h : RdG w b r) : w.cell? ⟨b, 2, none⟩ = some (.bool r.bad) := by obtain ⟨T, a, h1, h2, h3, h4⟩ := h.box; exact h4.cell rfl
def stopV : Value := .iface 171 (.int .i64 2)
set_option maxHeartbeats 1000000 in
set_option maxRecDepth 100000 in
theorem value_b (b : Nat) (r : Rd) (w : World) (h : RdG w b r) : Calls Tryz.prog 137 #[.pointer (some ⟨b, 0, none⟩), .int .u8 98] w fun e w' =>
  ((numR 1 r).bad = false → e = .returned (.agg (valC (numV 1 r : Nat) 0 ⟨#[]⟩).toArray)) ∧ ((numR 1 r).bad = true → e = .panicked [{ v := stopV, recovered := false }]) ∧ Ext (One b) w w' ∧ RdG w' b (numR 1 r) := by
 have HH := hI_ h
 have hb := h.lt
 clear h
 obtain ⟨n, hn⟩ : ∃ n, n = numV 1 r := ⟨_, rfl⟩
 obtain ⟨r2, hr2⟩ : ∃ r2, r2 = numR 1 r := ⟨_, rfl⟩
 have KB : Hid (∀ w', RdG w' b r → Calls Tryz.prog 72 #[.pointer (some ⟨b, 0, none⟩)] w' fun e w'' => e = .returned (.int .i64 (n : Int)) ∧ Ext (One b) w' w'' ∧ RdG w'' b r2) := hI_ (fun w' h => by rw [hn, hr2]; exact rdg_Byte b r w' h)
 rw [← hn, ← hr2]
 clear hn hr2
 go_enter Tryz.func137, Tryz.ntmps137
 go_wp2_with fail
 have XA := hI_ (((Ext.refl Non w).alloc (.cells valZ.toArray 156)).alloc (.cells valZ.toArray 156))
 have B4 := hI_ ((Bx.newAt w valZ 156 _ rfl).alloc (.cells valZ.toArray 156))
 have B5 := hI_ (Bx.newAt (w.alloc (.cells valZ.toArray 156)) valZ 156 (w.heap.size + 1) (by simp))
 unfold valZ valC at XA B4 B5
 have HW := hI_ (HH.out.extN XA.out)
 refine (KB.out _ HW.out).mono ?_
 rintro e w2 ⟨rfl, x2, h2⟩
 have n4 : w.heap.size ≠ b := by omega
 have n5 : w.heap.size + 1 ≠ b := by omega
 have C4 := hI_ (B4.out.ext x2 (fun q => n4 q))
 have C5 := hI_ (B5.out.ext x2 (fun q => n5 q))
 have H2 := hI_ h2
 have X2 := hI_ ((XA.out.ofNon : Ext (One b) _ _).trans x2)
 clear B4 B5 HW XA x2 h2
 have r5 : w2.cell? ⟨w.heap.size + 1, 0, none⟩ = some (.int .i64 0) := C5.out.cell rfl
 have z5 : w2.frozen? ⟨w.heap.size + 1, 0, none⟩ = false := froz_of_heap C5.out.h
 go_upto_region 13 with fail
 have HN5 : Hid (¬ One b (w.heap.size + 1)) := hI_ n5
 have Y : Ext (One (w.heap.size + 1)) w2 (w2.setCell ⟨w.heap.size + 1, 0, none⟩ (Value.int .i64 (n : Int))) := (Ext.refl _ _).set1 _
 have D4 := hI_ (C4.out.ext Y (fun q => by have q : w.heap.size = w.heap.size + 1 := q; omega))
 have D5 := hI_ (C5.out.set (j := 0) (Value.int .i64 (n : Int)))
 have H3 := hI_ (H2.out.ext Y (fun q => n5 q.symm))
 have X3 := hI_ (X2.out.step Y (fun i hi q => by have q : i = w.heap.size + 1 := q; omega))
 clear C4 C5 H2 X2 Y r5 z5
 generalize w2.setCell ⟨w.heap.size + 1, 0, none⟩ (Value.int .i64 (n : Int)) = w3 at *
 clear w2
 have c2 := H3.out.bad_
 obtain ⟨s, bad⟩ := r2
 cases bad
 ·have d0 : w3.cell? ⟨w.heap.size + 1, 0, none⟩ = some _ := D5.out.cell rfl
  have d1 : w3.cell? ⟨w.heap.size + 1, 1, none⟩ = some _ := D5.out.cell rfl
  have d2 : w3.cell? ⟨w.heap.size + 1, 2, none⟩ = some _ := D5.out.cell rfl
  have g0 : w3.cell? ⟨w.heap.size, 0, none⟩ = some _ := D4.out.cell rfl
  have g1 : w3.cell? ⟨w.heap.size, 1, none⟩ = some _ := D4.out.cell rfl
  have g2 : w3.cell? ⟨w.heap.size, 2, none⟩ = some _ := D4.out.cell rfl
  have f0 : w3.frozen? ⟨w.heap.size, 0, none⟩ = false := froz_of_heap D4.out.h
  have f1 : w3.frozen? ⟨w.heap.size, 1, none⟩ = false := froz_of_heap D4.out.h
  have f2 : w3.frozen? ⟨w.heap.size, 2, none⟩ = false := froz_of_heap D4.out.h
  have E4 := hI_ (((D4.out.set (j := 0) (.int .i64 (n : Int))).set (j := 1) (.int .u64 0)).set (j := 2) (.string ⟨#[]⟩))
  go_wp2
  have y0 := E4.out.cell (j := 0) rfl
  have y1 := E4.out.cell (j := 1) rfl
  have y2 := E4.out.cell (j := 2) rfl
  refine bodyPost_ret (v := .agg #[.int .i64 (n : Int), .int .u64 0, .string ⟨#[]⟩]) (by simp [results, Tryz.results137, go_sem, y0, y1, y2]) rfl ?_
  have z4 : Ext (One w.heap.size) w3 (((w3.setCell ⟨w.heap.size, 0, none⟩ (.int .i64 (n : Int))).setCell ⟨w.heap.size, 1, none⟩ (.int .u64 0)).setCell ⟨w.heap.size, 2, none⟩ (.string ⟨#[]⟩)) := (((Ext.refl _ _).set1 _).set1 _).set1 _
  exact ⟨rfl, X3.out.step z4 (fun i hi q => by have q : i = w.heap.size := q; omega), H3.out.ext z4 (fun q => n4 q.symm)⟩
 ·go_wp2
  exact ⟨rfl, rfl, X3.out, H3.out⟩
set_option maxHeartbeats 1000000 in
set_option maxRecDepth 100000 in
theorem value_q (b : Nat) (r : Rd) (w : World) (h : RdG w b r) : Calls Tryz.prog 137 #[.pointer (some ⟨b, 0, none⟩), .int .u8 113] w fun e w' =>
  ((numR 8 r).bad = false → e = .returned (.agg (valC 0 (numV 8 r : Nat) ⟨#[]⟩).toArray)) ∧ ((numR 8 r).bad = true → e = .panicked [{ v := stopV, recovered := false }]) ∧ Ext (One b) w w' ∧ RdG w' b (numR 8 r) := by
 have HH := hI_ h
 have hb := h.lt
 clear h
 obtain ⟨n, hn⟩ : ∃ n, n = numV 8 r := ⟨_, rfl⟩
 obtain ⟨r2, hr2⟩ : ∃ r2, r2 = numR 8 r := ⟨_, rfl⟩
 have KB : Hid (∀ w', RdG w' b r → Calls Tryz.prog 78 #[.pointer (some ⟨b, 0, none⟩)] w' fun e w'' => e = .returned (.int .u64 (n : Int)) ∧ Ext (One b) w' w'' ∧ RdG w'' b r2) := hI_ (fun w' h => by rw [hn, hr2]; exact rdg_Bits b r w' h)
 rw [← hn, ← hr2]
 clear hn hr2
 go_enter Tryz.func137, Tryz.ntmps137
 go_wp2_with fail
 have XA := hI_ (((Ext.refl Non w).alloc (.cells valZ.toArray 156)).alloc (.cells valZ.toArray 156))
 have B4 := hI_ ((Bx.newAt w valZ 156 _ rfl).alloc (.cells valZ.toArray 156))
 have B5 := hI_ (Bx.newAt (w.alloc (.cells valZ.toArray 156)) valZ 156 (w.heap.size + 1) (by simp))
 unfold valZ valC at XA B4 B5
 have HW := hI_ (HH.out.extN XA.out)
 refine (KB.out _ HW.out).mono ?_
 rintro e w2 ⟨rfl, x2, h2⟩
 have n4 : w.heap.size ≠ b := by omega
 have n5 : w.heap.size + 1 ≠ b := by omega
 have C4 := hI_ (B4.out.ext x2 (fun q => n4 q))
 have C5 := hI_ (B5.out.ext x2 (fun q => n5 q))
 have H2 := hI_ h2
 have X2 := hI_ ((XA.out.ofNon : Ext (One b) _ _).trans x2)
 clear B4 B5 HW XA x2 h2
 have r5 : w2.cell? ⟨w.heap.size + 1, 1, none⟩ = some (.int .u64 0) := C5.out.cell rfl
 have z5 : w2.frozen? ⟨w.heap.size + 1, 1, none⟩ = false := froz_of_heap C5.out.h
 go_upto_region 13 with fail
 have HN5 : Hid (¬ One b (w.heap.size + 1)) := hI_ n5
 have Y : Ext (One (w.heap.size + 1)) w2 (w2.setCell ⟨w.heap.size + 1, 1, none⟩ (Value.int .u64 (n : Int))) := (Ext.refl _ _).set1 _
 have D4 := hI_ (C4.out.ext Y (fun q => by have q : w.heap.size = w.heap.size + 1 := q; omega))
 have D5 := hI_ (C5.out.set (j := 1) (Value.int .u64 (n : Int)))
 have H3 := hI_ (H2.out.ext Y (fun q => n5 q.symm))
 have X3 := hI_ (X2.out.step Y (fun i hi q => by have q : i = w.heap.size + 1 := q; omega))
 clear C4 C5 H2 X2 Y r5 z5
 generalize w2.setCell ⟨w.heap.size + 1, 1, none⟩ (Value.int .u64 (n : Int)) = w3 at *
 clear w2
 have c2 := H3.out.bad_
 obtain ⟨s, bad⟩ := r2
 cases bad
 ·have d0 : w3.cell? ⟨w.heap.size + 1, 0, none⟩ = some _ := D5.out.cell rfl
  have d1 : w3.cell? ⟨w.heap.size + 1, 1, none⟩ = some _ := D5.out.cell rfl
  have d2 : w3.cell? ⟨w.heap.size + 1, 2, none⟩ = some _ := D5.out.cell rfl
  have g0 : w3.cell? ⟨w.heap.size, 0, none⟩ = some _ := D4.out.cell rfl
  have g1 : w3.cell? ⟨w.heap.size, 1, none⟩ = some _ := D4.out.cell rfl
  have g2 : w3.cell? ⟨w.heap.size, 2, none⟩ = some _ := D4.out.cell rfl
  have f0 : w3.frozen? ⟨w.heap.size, 0, none⟩ = false := froz_of_heap D4.out.h
  have f1 : w3.frozen? ⟨w.heap.size, 1, none⟩ = false := froz_of_heap D4.out.h
  have f2 : w3.frozen? ⟨w.heap.size, 2, none⟩ = false := froz_of_heap D4.out.h
  have E4 := hI_ (((D4.out.set (j := 0) (.int .i64 0)).set (j := 1) (.int .u64 (n : Int))).set (j := 2) (.string ⟨#[]⟩))
  go_wp2
  have y0 := E4.out.cell (j := 0) rfl
  have y1 := E4.out.cell (j := 1) rfl
  have y2 := E4.out.cell (j := 2) rfl
  refine bodyPost_ret (v := .agg #[.int .i64 0, .int .u64 (n : Int), .string ⟨#[]⟩]) (by simp [results, Tryz.results137, go_sem, y0, y1, y2]) rfl ?_
  have z4 : Ext (One w.heap.size) w3 (((w3.setCell ⟨w.heap.size, 0, none⟩ (.int .i64 0)).setCell ⟨w.heap.size, 1, none⟩ (.int .u64 (n : Int))).setCell ⟨w.heap.size, 2, none⟩ (.string ⟨#[]⟩)) := (((Ext.refl _ _).set1 _).set1 _).set1 _
  exact ⟨rfl, X3.out.step z4 (fun i hi q => by have q : i = w.heap.size := q; omega), H3.out.ext z4 (fun q => n4 q.symm)⟩
 ·go_wp2
  exact ⟨rfl, rfl, X3.out, H3.out⟩
theorem assert_stop (W : World) : (Instr.typeAssert (.iface 171 (.int .i64 2)) 20 171 true).run Tryz.prog W = .ok (.tuple #[.int .i64 2, .bool true]) W := by kernel_rfl
theorem assert_nil (W : World) : (Instr.typeAssert .nilIface 20 171 true).run Tryz.prog W = .ok (.tuple #[.int .i64 0, .bool false]) W := by kernel_rfl
set_option maxHeartbeats 1000000 in
set_option maxRecDepth 100000 in
theorem scan_catch (kp kq : Nat) (hne : kp ≠ kq) (sv ev : Value) (w : World) (hp : w.cell? ⟨kp, 0, none⟩ = some sv) (fp : w.frozen? ⟨kp, 0, none⟩ = false) (hq : w.cell? ⟨kq, 0, none⟩ = some ev) (fq : w.frozen? ⟨kq, 0, none⟩ = false) (older : List PanicEntry) :
  CallsD Tryz.prog 135 #[.pointer (some ⟨kp, 0, none⟩), .pointer (some ⟨kq, 0, none⟩)] (.panicking ({ v := stopV, recovered := false } :: older)) w fun e u' w' =>
   e = .returned (.tuple #[]) ∧ u' = .panicking ({ v := stopV, recovered := true } :: older) ∧ w' = (w.setCell ⟨kp, 0, none⟩ (.slice none 0 0)).setCell ⟨kq, 0, none⟩ (.int .i64 2) := by
 refine callsD_of_wpS Tryz.func135 rfl fun c₀ cs hu => ?_
 apply wpS_seq
 apply wpS_region
 simp [wpOpsS, go_sem, recoverD, hu, Tryz.ntmps135, Exit.thenS, stopV, assert_stop]
 apply wpS_seq
 apply wpS_region
 simp [wpOpsS, go_sem, Exit.thenS]
 refine wpS_cond (t := true) (by simp [Act.eval]) ?_
 simp only [if_true]
 apply wpS_region
 simp [wpOpsS, go_sem, hp, fp, hq, fq, hne, bodyPostS, results, Tryz.results135]
theorem scan_idle (kp kq : Nat) (w : World) :
  CallsD Tryz.prog 135 #[.pointer (some ⟨kp, 0, none⟩), .pointer (some ⟨kq, 0, none⟩)] .returning w fun e u' w' => e = .returned (.tuple #[]) ∧ u' = .returning ∧ w' = w := by
 refine callsD_of_wpS Tryz.func135 rfl fun c₀ cs hu => ?_
 apply wpS_seq
 apply wpS_region
 simp [wpOpsS, go_sem, recoverD, hu, Tryz.ntmps135, Exit.thenS, assert_nil]
 apply wpS_seq
 apply wpS_region
 simp [wpOpsS, go_sem, Exit.thenS]
 refine wpS_cond (t := false) (by simp [Act.eval]) ?_
 simp only [Bool.false_eq_true, if_false]
 refine wpS_of_wp (wp_skip ?_)
 cases c₀
 simp_all [bodyPostS, results, Tryz.results135]
theorem letter_ok (c : Int) (hc : c = 98 ∨ c = 113) (w : World) : Calls Tryz.prog 136 #[.int .u8 c] w fun e w' => e = .returned (.bool true) ∧ w = w' := by
 rcases hc with rfl | rfl
 ·go_enter Tryz.func136, Tryz.ntmps136
  go_wp2
  go_returns
  exact ⟨rfl, rfl⟩
 ·go_enter Tryz.func136, Tryz.ntmps136
  go_wp2
  go_returns
  exact ⟨rfl, rfl⟩
theorem info_val : (Tryz.prog.info? 156).map (fun i => (i.zero, i.size, i.bytes)) = some (some (.agg #[.int .i64 0, .int .u64 0, .string ⟨#[]⟩]), 3, 32) := by kernel_rfl
def bqS : List UInt8 := [98, 113]
set_option maxHeartbeats 2000000 in
set_option maxRecDepth 100000 in
theorem scan_bq (t : List UInt8) (hs : t.length ≤ 4611686018427387904) (hnb : (xR2 t).bad = false) (w : World) : Calls Tryz.prog 120 #[.string ⟨#[98, 113]⟩, .string (sB t)] w fun e w' =>
  Ext Non w w' ∧ (endE (xR2 t) = 0 → ∃ k cap, e = .returned (.tuple #[.slice (some ⟨k, 0, none⟩) 2 cap, .int .i64 0]) ∧ k < w'.heap.size ∧ w'.cell? ⟨k, 0, none⟩ = some (.int .i64 (xCd t)) ∧ w'.cell? ⟨k, 4, none⟩ = some (.int .u64 (xBits t)))
   ∧ (endE (xR2 t) ≠ 0 → e = .returned (.tuple #[.slice none 0 0, .int .i64 (endE (xR2 t))])) := by
 have hmf : ∀ (fn : Fn) (first cap : Array Value) (w : World), (Instr.makeFunc fn first cap).run Tryz.prog w = .ok (.func fn first cap) w := fun _ _ _ _ => rfl
 have HS := hI_ hs
 clear hs
 obtain ⟨n, hn⟩ : ∃ n : Nat, n = numV 1 ⟨t, false⟩ := ⟨_, rfl⟩
 obtain ⟨x, hx⟩ : ∃ x : Nat, x = numV 8 (numR 1 ⟨t, false⟩) := ⟨_, rfl⟩
 obtain ⟨r1, hr1⟩ : ∃ r, r = numR 1 ⟨t, false⟩ := ⟨_, rfl⟩
 obtain ⟨r2, hr2⟩ : ∃ r, r = numR 8 (numR 1 ⟨t, false⟩) := ⟨_, rfl⟩
 obtain ⟨en, hen⟩ : ∃ en, en = endE r2 := ⟨_, rfl⟩
 have CB : Hid (∀ rb w', RdG w' rb ⟨t, false⟩ → Calls Tryz.prog 137 #[.pointer (some ⟨rb, 0, none⟩), .int .u8 98] w' fun e w'' => (r1.bad = false → e = .returned (.agg #[.int .i64 (n : Int), .int .u64 0, .string ⟨#[]⟩])) ∧ (r1.bad = true → e = .panicked [{ v := stopV, recovered := false }]) ∧ Ext (One rb) w' w'' ∧ RdG w'' rb r1) := hI_ (fun rb w' h => by rw [hr1, hn]; exact value_b rb _ w' h)
 have CQ : Hid (∀ rb w', RdG w' rb r1 → Calls Tryz.prog 137 #[.pointer (some ⟨rb, 0, none⟩), .int .u8 113] w' fun e w'' => (r2.bad = false → e = .returned (.agg #[.int .i64 0, .int .u64 (x : Int), .string ⟨#[]⟩])) ∧ (r2.bad = true → e = .panicked [{ v := stopV, recovered := false }]) ∧ Ext (One rb) w' w'' ∧ RdG w'' rb r2) := hI_ (fun rb w' h => by rw [hr2, hx, ← hr1]; exact value_q rb _ w' h)
 have EN : Hid (∀ rb w', RdG w' rb r2 → Calls Tryz.prog 110 #[.pointer (some ⟨rb, 0, none⟩)] w' fun e w'' => e = .returned (.int .i64 en) ∧ ∃ n, w'' = w'.drewN n) := hI_ (fun rb w' h => by rw [hen]; exact rdg_End rb r2 w' h)
 have B1 : Hid (r1.bad = true → en = 2) := hI_ (fun h => by
  have : r2.bad = true := by rw [hr2, ← hr1]; unfold numR canR; rw [h]; rfl
  rw [hen]; unfold endE; rw [if_pos this])
 have B2 : Hid (r2.bad = true → en = 2) := hI_ (fun h => by rw [hen]; unfold endE; rw [if_pos h])
 have NBE : Hid (r2.bad = false) := hI_ (by rw [hr2]; exact hnb)
 have NBD : Hid (r1.bad = true → False) := hI_ (fun h => by
  have : r2.bad = true := by rw [hr2, ← hr1]; unfold numR canR; rw [h]; rfl
  exact absurd (this.symm.trans NBE.out) (by simp))
 have e1 : xCd t = (n : Int) := by rw [hn]; rfl
 have e2 : xBits t = x := by rw [hx]; rfl
 have e3 : endE (xR2 t) = en := by rw [hen, hr2]; rfl
 rw [e1, e2, e3]
 clear e1 e2 e3 hn hx hr1 hr2 hen hnb
 generalize htt : sB t = tt
 have HTT := hI_ htt
 clear htt
 go_enter_defers Tryz.func120, Tryz.ntmps120
 go_upto_region 2 with fail
 have B4 := hI_ ((Bx.newAt w [.slice none 0 0] 152 _ rfl).alloc (.cells #[.int .i64 0] 28))
 have B5 := hI_ (Bx.newAt (w.alloc (.cells #[.slice none 0 0] 152)) [.int .i64 0] 28 (w.heap.size + 1) (by simp))
 have XA := hI_ (((Ext.refl Non w).alloc (.cells #[.slice none 0 0] 152)).alloc (.cells #[.int .i64 0] 28))
 generalize (w.alloc (.cells #[.slice none 0 0] 152)).alloc (.cells #[.int .i64 0] 28) = w1 at *
 obtain ⟨c1, w2, hcv, hx, hby⟩ := bytes_run w1 bqS
 replace hcv : (convert 9 120 (.string ⟨#[98, 113]⟩)).run Tryz.prog w1 = .ok (.slice (some ⟨w1.heap.size, 0, none⟩) 2 c1) w2 := hcv
 have k0 : w2.cell? ⟨w1.heap.size, 0, none⟩ = some (.int .u8 98) := hby.2 0 (by decide)
 have k1 : w2.cell? ⟨w1.heap.size, 1, none⟩ = some (.int .u8 113) := hby.2 1 (by decide)
 have C4 := hI_ (B4.out.extN hx); have C5 := hI_ (B5.out.extN hx); have XB := hI_ (XA.out.trans hx)
 clear hby hx B4 B5 XA
 go_wp2_with fail
 refine wp_loop_rounds 3 ?_
 rw [rounds_succ]
 go_wp2_with fail
 refine (letter_ok 98 (.inl rfl) _).mono ?_
 rintro e _ ⟨rfl, rfl⟩
 go_wp2_with fail
 rw [rounds_succ]
 go_wp2_with fail
 refine (letter_ok 113 (.inr rfl) _).mono ?_
 rintro e _ ⟨rfl, rfl⟩
 go_wp2_with fail
 rw [rounds_succ]
 go_wp2_with fail
 have KR : Hid (∀ w, Calls Tryz.prog 34 #[.string tt] w fun e w' => ∃ b, e = .returned (.pointer (some ⟨b, 0, none⟩)) ∧ Ext Non w w' ∧ RdG w' b ⟨t, false⟩ ∧ w.heap.size ≤ b) := hI_ (fun w => by rw [← HTT.out]; exact rdg_Read t HS.out w)
 refine (KR.out w2).mono ?_
 rintro e w3 ⟨rb, rfl, hx, hR, hrb⟩
 clear hcv k0 k1
 have hb2 : w.heap.size + 1 < w2.heap.size := C5.out.lt
 obtain ⟨c2, w4, hcv, hx2, hby⟩ := bytes_run w3 bqS
 replace hcv : (convert 9 120 (.string ⟨#[98, 113]⟩)).run Tryz.prog w3 = .ok (.slice (some ⟨w3.heap.size, 0, none⟩) 2 c2) w4 := hcv
 have hbl := hR.lt
 obtain ⟨kk, hkk⟩ : ∃ kk, kk = w3.heap.size := ⟨_, rfl⟩
 rw [← hkk] at hcv hby hbl
 have hkl : kk < w4.heap.size := hby.1
 have HBY := hI_ hby
 have D4 := hI_ (C4.out.extN (hx.trans hx2)); have D5 := hI_ (C5.out.extN (hx.trans hx2)); have XC := hI_ (XB.out.trans (hx.trans hx2)); have R4 := hI_ (hR.extN hx2)
 have HKK := hI_ hkk
 clear hx hx2 hby hR C4 C5 XB hkk
 go_wp2_with fail
 clear hcv
 have nb : w.heap.size ≠ rb ∧ w.heap.size + 1 ≠ rb ∧ kk ≠ rb ∧ w.heap.size ≠ kk ∧ w.heap.size + 1 ≠ kk ∧ rb < w4.heap.size := by omega
 have NB := hI_ nb
 have HRB : Hid (w.heap.size + 1 < rb ∧ w.heap.size ≤ w4.heap.size) := hI_ (by omega)
 clear nb hb2 hrb hbl
 obtain ⟨B', hB'⟩ : ∃ B', B' = w4.heap.size := ⟨_, rfl⟩
 have k0 : w4.cell? ⟨kk, 0, none⟩ = some (.int .u8 98) := HBY.out.2 0 (by decide)
 refine wp_loop_rounds 3 ?_
 rw [rounds_succ]
 go_upto_region 12 with fail
 have d4 : w4.cell? ⟨w.heap.size, 0, none⟩ = some (.slice none 0 0) := D4.out.cell rfl
 by_cases hb1 : r1.bad = true
 ·exact (NBD.out hb1).elim
 ·have hb1 : r1.bad = false := by simpa using hb1
  have CB1 : Hid (∀ w', RdG w' rb ⟨t, false⟩ → Calls Tryz.prog 137 #[.pointer (some ⟨rb, 0, none⟩), .int .u8 98] w' fun e w'' => e = .returned (.agg #[.int .i64 (n : Int), .int .u64 0, .string ⟨#[]⟩]) ∧ Ext (One rb) w' w'' ∧ RdG w'' rb r1) := hI_ (fun w' h => (CB.out rb w' h).mono fun e w'' ⟨h1, _, h3, h4⟩ => ⟨h1 hb1, h3, h4⟩)
  have hr1' : ∀ k, One rb k → k < w4.heap.size := fun k q => by have q : k = rb := q; have := NB.out; omega
  have hr2' : ∀ k, Row (.slice none 0 0) k → k < w4.heap.size := fun k q => by cases q
  have hr3' : ∀ k, One rb k → ¬ Row (.slice none 0 0) k := fun k _ r => by cases r
  have HR1 := hI_ hr1'; have HR2 := hI_ hr2'; have HR3 := hI_ hr3'
  clear hr1' hr2' hr3'
  have ROW0 := hI_ (World.ownsRow_nil w4 B' 156 3)
  have n1 : One rb w.heap.size = False := by have := NB.out.1; unfold One; simp; omega
  have n2 : Row (.slice none 0 0) w.heap.size = False := by simp [Row, Value.ownBlock]
  have hbw : B' ≤ w4.heap.size := by omega
  have HB' := hI_ hB'
  clear hB'
  apply wp_region_wr 6 [Mo.is _, Mo.is _, Mo.is _, moSt (.agg #[.int .i64 (n : Int), .int .u64 0, .string ⟨#[]⟩]) (fun w' => RdG w' rb r1) (fun _ _ x h => RdG.extN h x), moOne w4.heap.size [.int .i64 (n : Int), .int .u64 0, .string ⟨#[]⟩] 156, moRow (.slice none 0 0) w4.heap.size B' 156 3 1 [.int .i64 (n : Int), .int .u64 0, .string ⟨#[]⟩]] (One rb) 3 (fun w' => RdG w' rb ⟨t, false⟩) (Row (.slice none 0 0)) 5 (fun w' => w'.ownsRow B' 156 3 (.slice none 0 0) 0 []) (by kernel_rfl) (by kernel_rfl) (by kernel_rfl) (by kernel_rfl) (by kernel_rfl) (by decide) (by kernel_rfl) (by decide) ?ta3 ?tb3 ?ha3 ?hb3 ?hc3 ?hd3 ?ma3 ?mb3 ?st3 ?q3
  case ta3 => exact R4.out
  case tb3 => exact ROW0.out
  case ha3 => exact fun _ _ x h => RdG.extN h x
  case hb3 => exact fun _ _ x h => RdG.ext h x (fun q => by cases q)
  case hc3 => exact fun _ _ x h => ownR_extN h x
  case hd3 => exact fun _ _ x h => ownR_ext h x (fun k hk hs => by cases hk)
  case st3 =>
   refine ⟨?_, ?_, ?_, ?_, ?_, ?_, trivial⟩
   ·refine .inl ⟨by decide, by decide, ?_⟩
    intro a' w' hx hs hd
    obtain ⟨y, rfl⟩ := hx.ew
    have e4 : a'.tmps[4]?.getD undef = _ := hs 4 rfl
    simp only [aL, aS, aZ] at e4
    refine .inl ⟨rfl, ?_⟩
    clear hs hd hx
    go_simp
    exact ⟨Ext.refl _ _, rfl⟩
   ·refine .inl ⟨by decide, by decide, ?_⟩
    intro a' w' hx hs hd
    obtain ⟨y, rfl⟩ := hx.ew
    have e8 : a'.tmps[8]?.getD undef = _ := hs 8 rfl
    simp only [aL, aS, aZ] at e8
    refine .inl ⟨rfl, ?_⟩
    clear hs hd hx
    go_simp
    exact ⟨Ext.refl _ _, rfl⟩
   ·refine .inl ⟨by decide, by decide, ?_⟩
    intro a' w' hx hs hd
    obtain ⟨y, rfl⟩ := hx.ew
    have e10 : a'.tmps[10]?.getD undef = _ := hs 10 rfl
    simp only [aL, aS, aZ] at e10
    refine .inl ⟨rfl, ?_⟩
    clear hs hd hx
    go_simp
    exact ⟨Ext.refl _ _, rfl⟩
   ·refine .inr (.inl ⟨rfl, ?_⟩)
    intro a' w' hx hst hs hd
    obtain ⟨y, rfl⟩ := hx.ew
    have e34 : a'.tmps[34]?.getD undef = _ := hd 1 34 rfl rfl
    have e35 : a'.tmps[35]?.getD undef = _ := hd 2 35 rfl rfl
    refine ⟨rfl, ?_⟩
    clear hs hd hx
    go_simp
    exact (CB1.out _ hst).mono (fun e w'' ⟨he, hx, hr⟩ => ⟨_, he, hx, rfl, hr⟩)
   ·refine .inl ⟨by decide, by decide, ?_⟩
    intro a' w' hx hs hd
    obtain ⟨y, rfl⟩ := hx.ew
    obtain ⟨e36, hR3⟩ : a'.tmps[36]?.getD undef = .agg #[.int .i64 (n : Int), .int .u64 0, .string ⟨#[]⟩] ∧ RdG y.on rb r1 := hd 3 36 rfl rfl
    refine .inl ⟨rfl, ?_⟩
    clear hs hd hx
    go_simp
    exact ⟨(Ext.refl _ _).alloc _, _, rfl, y.ext.size, Bx.newAt _ _ _ _ rfl⟩
   ·refine .inr (.inr ⟨rfl, ?_⟩)
    intro a' w' hx hst hs hd
    obtain ⟨y, rfl⟩ := hx.ew
    have e33 : a'.tmps[33]?.getD undef = _ := hd 0 33 rfl rfl
    obtain ⟨k4, e37, hk4, hB4⟩ : ∃ k, a'.tmps[37]?.getD undef = .slice (some ⟨k, 0, none⟩) 1 1 ∧ w4.heap.size ≤ k ∧ Bx y.on k [.int .i64 (n : Int), .int .u64 0, .string ⟨#[]⟩] 156 := hd 4 37 rfl rfl
    refine ⟨rfl, ?_⟩
    clear hs hd hx
    exact rel_append_row _ _ 152 rfl B' 156 3 32 _ Tryz.underlying152 info_val (by rfl) (by omega) (by omega) (.slice none 0 0) 0 [] ((eval_tmp _ _).trans e33) hst k4 _ _ ((eval_tmp _ _).trans e37) hB4 rfl (by intro u hu; simp at hu; rcases hu with rfl | rfl | rfl <;> rfl) (by omega) (by have := y.ext.size; omega) (fun v' w' x o r => ⟨v', rfl, o, fun k hk => (r k hk).imp id (fun z => Nat.le_trans y.ext.size z)⟩)
  case ma3 => exact ⟨.inr (Mo.is_still _ _), .inr (Mo.is_still _ _), .inr (Mo.is_still _ _), .inl rfl, .inr (moOne_still HR1.out), .inr (moRow_still HR1.out HR3.out), trivial⟩
  case mb3 => exact ⟨.inr (Mo.is_still _ _), .inr (Mo.is_still _ _), .inr (Mo.is_still _ _), .inr (moSt_still (fun _ _ x h => RdG.ext h x (fun q => by cases q))), .inr (moOne_still HR2.out), .inl rfl, trivial⟩
  case' q3 =>
   intro vs w' hx hRR
   obtain ⟨x9, rfl⟩ := hx.ew
   have q0 : vs 0 = _ := hRR 0 (by decide)
   have q1 : vs 1 = _ := hRR 1 (by decide)
   have q2 : vs 2 = _ := hRR 2 (by decide)
   obtain ⟨q3, hR3⟩ : vs 3 = .agg #[.int .i64 (n : Int), .int .u64 0, .string ⟨#[]⟩] ∧ RdG x9.on rb r1 := hRR 3 (by decide)
   obtain ⟨k4, q4, hk4, hB4⟩ : ∃ k, vs 4 = .slice (some ⟨k, 0, none⟩) 1 1 ∧ w4.heap.size ≤ k ∧ Bx x9.on k [.int .i64 (n : Int), .int .u64 0, .string ⟨#[]⟩] 156 := hRR 4 (by decide)
   obtain ⟨u5, q5, hO5, hr5⟩ : ∃ u, vs 5 = u ∧ x9.on.ownsRow B' 156 3 u 1 [.int .i64 (n : Int), .int .u64 0, .string ⟨#[]⟩] ∧ ∀ k, Row u k → Row (.slice none 0 0) k ∨ w4.heap.size ≤ k := hRR 5 (by decide)
   clear hRR hx
   simp only [putAll, List.take_succ_cons, List.take_zero, List.drop_succ_cons, List.drop_zero, Act.put, List.setIfInBounds_toArray, List.set_cons_zero, List.set_cons_succ, Nat.reduceAdd, Nat.zero_add]
   simp only [q0, q1, q2, q3, q4, q5]
   clear q0 q1 q2 q3 q4 q5 vs
  obtain ⟨ua, uc, rfl⟩ := row_slice hO5
  have nofoot : ∀ j, j ≠ rb → ¬ Or2 (One rb) (Row (.slice none 0 0)) j := fun j hj q => by rcases q with q | q; exact hj q; cases q
  have E4 := hI_ (D4.out.ext x9.ext (nofoot _ NB.out.1))
  have E5 := hI_ (D5.out.ext x9.ext (nofoot _ NB.out.2.1))
  have BY9 := hI_ (HBY.out.ext x9.ext (nofoot _ NB.out.2.2.1))
  have R9 := hI_ hR3
  have O9 := hI_ hO5
  have XD := hI_ (XC.out.step x9.ext (fun j hj q => by rcases q with q | q; have q : j = rb := q; have := HRB.out; omega; cases q))
  have hsz9 := x9.ext.size
  have HRU : Hid (∀ k, Row (.slice ua 1 uc) k → w4.heap.size ≤ k) := hI_ (fun k q => by rcases hr5 k q with z | z; cases z; exact z)
  have HK9 : Hid (kk < w4.heap.size ∧ w.heap.size < w4.heap.size ∧ w.heap.size + 1 < w4.heap.size ∧ w4.heap.size ≤ x9.on.heap.size) := hI_ ⟨HBY.out.1, D4.out.lt, D5.out.lt, hsz9⟩
  clear hR3 hO5 hk4 hB4 hr5 n1 n2 d4 HBY D4 D5 R4 XC ROW0 HR1 HR2 HR3 CB1 nofoot hsz9 k0
  generalize x9.on = w9 at *
  have d4 : w9.cell? ⟨w.heap.size, 0, none⟩ = some (.slice none 0 0) := E4.out.cell rfl
  have z4 : w9.frozen? ⟨w.heap.size, 0, none⟩ = false := froz_of_heap E4.out.h
  go_upto_region 13 with fail
  have Y : Ext (One w.heap.size) w9 (w9.setCell ⟨w.heap.size, 0, none⟩ (.slice ua 1 uc)) := (Ext.refl _ _).set1 _
  have F4 := hI_ (E4.out.set (j := 0) (.slice ua 1 uc))
  have F5 := hI_ (E5.out.ext Y (fun q => by have q : w.heap.size + 1 = w.heap.size := q; omega))
  have BY10 := hI_ (BY9.out.ext Y (fun q => NB.out.2.2.2.1 q.symm))
  have R10 := hI_ (R9.out.ext Y (fun q => NB.out.1 q.symm))
  have O10 := hI_ (ownR_ext O9.out Y (fun k hk q => by have q : k = w.heap.size := q; have := HRU.out k hk; have := HK9.out; omega))
  have XE := hI_ (XD.out.step Y (fun j hj q => by have q : j = w.heap.size := q; omega))
  have HS10 : Hid (w4.heap.size ≤ (w9.setCell ⟨w.heap.size, 0, none⟩ (.slice ua 1 uc)).heap.size) := hI_ (by have := Y.size; have := HK9.out; omega)
  clear d4 z4 Y E4 E5 BY9 R9 O9 XD x9
  generalize w9.setCell ⟨w.heap.size, 0, none⟩ (.slice ua 1 uc) = w10 at *
  have HK10 : Hid (kk < w4.heap.size ∧ w.heap.size < w4.heap.size ∧ w.heap.size + 1 < w4.heap.size) := hI_ ⟨HK9.out.1, HK9.out.2.1, HK9.out.2.2.1⟩
  clear HK9
  have k1 : w10.cell? ⟨kk, 1, none⟩ = some (.int .u8 113) := BY10.out.2 1 (by decide)
  go_wp2_with fail
  rw [rounds_succ]
  go_upto_region 12 with fail
  have d4 : w10.cell? ⟨w.heap.size, 0, none⟩ = some (.slice ua 1 uc) := F4.out.cell rfl
  obtain ⟨v, hv⟩ : ∃ v, v = Value.slice ua 1 uc := ⟨_, rfl⟩
  rw [← hv] at d4 HRU F4 O10
  have HV := hI_ hv
  clear hv
  by_cases hb2 : r2.bad = true
  ·exact absurd (hb2.symm.trans NBE.out) (by simp)
  ·have hb2 : r2.bad = false := by simpa using hb2
   have CQ1 : Hid (∀ w', RdG w' rb r1 → Calls Tryz.prog 137 #[.pointer (some ⟨rb, 0, none⟩), .int .u8 113] w' fun e w'' => e = .returned (.agg #[.int .i64 0, .int .u64 (x : Int), .string ⟨#[]⟩]) ∧ Ext (One rb) w' w'' ∧ RdG w'' rb r2) := hI_ (fun w' h => (CQ.out rb w' h).mono fun e w'' ⟨h1, _, h3, h4⟩ => ⟨h1 hb2, h3, h4⟩)
   have hrv : ∀ k, Row v k → w4.heap.size ≤ k ∧ k < w10.heap.size := fun k q => by
    refine ⟨HRU.out k q, ?_⟩
    exact (own_row O10.out k q).2
   have hr1' : ∀ k, One rb k → k < w10.heap.size := fun k q => by have q : k = rb := q; have := NB.out; have := HS10.out; omega
   have hr2' : ∀ k, Row v k → k < w10.heap.size := fun k q => (hrv k q).2
   have hr3' : ∀ k, One rb k → ¬ Row v k := fun k q r => by have q : k = rb := q; have := (hrv k r).1; have := NB.out; omega
   have HR1 := hI_ hr1'; have HR2 := hI_ hr2'; have HR3 := hI_ hr3'; have HRV := hI_ hrv
   clear hr1' hr2' hr3' hrv
   have n1 : One rb w.heap.size = False := by have := NB.out.1; unfold One; simp; omega
   have n2 : Row v w.heap.size = False := by simp only [eq_iff_iff, iff_false]; intro q; have := (HRV.out _ q).1; have := HK10.out; omega
   have HRBV : Hid (¬ Row v rb) := hI_ (HR3.out rb rfl)
   have hbw2 : B' ≤ w10.heap.size := by have := HS10.out; omega
   apply wp_region_wr 6 [Mo.is _, Mo.is _, Mo.is _, moSt (.agg #[.int .i64 0, .int .u64 (x : Int), .string ⟨#[]⟩]) (fun w' => RdG w' rb r2) (fun _ _ x h => RdG.extN h x), moOne w10.heap.size [.int .i64 0, .int .u64 (x : Int), .string ⟨#[]⟩] 156, moRow v w10.heap.size B' 156 3 2 [.int .i64 (n : Int), .int .u64 0, .string ⟨#[]⟩, .int .i64 0, .int .u64 (x : Int), .string ⟨#[]⟩]] (One rb) 3 (fun w' => RdG w' rb r1) (Row v) 5 (fun w' => w'.ownsRow B' 156 3 v 1 [.int .i64 (n : Int), .int .u64 0, .string ⟨#[]⟩]) (by kernel_rfl) (by kernel_rfl) (by kernel_rfl) (by kernel_rfl) (by kernel_rfl) (by decide) (by kernel_rfl) (by decide) ?ta4 ?tb4 ?ha4 ?hb4 ?hc4 ?hd4 ?ma4 ?mb4 ?st4 ?q4
   case ta4 => exact R10.out
   case tb4 => exact O10.out
   case ha4 => exact fun _ _ x h => RdG.extN h x
   case hb4 => exact fun _ _ x h => RdG.ext h x HRBV.out
   case hc4 => exact fun _ _ x h => ownR_extN h x
   case hd4 => exact fun _ _ x h => ownR_ext h x (fun k hk hs => HR3.out k hs hk)
   case st4 =>
    refine ⟨?_, ?_, ?_, ?_, ?_, ?_, trivial⟩
    ·refine .inl ⟨by decide, by decide, ?_⟩
     intro a' w' hx hs hd
     obtain ⟨y, rfl⟩ := hx.ew
     have e4 : a'.tmps[4]?.getD undef = _ := hs 4 rfl
     simp only [aL, aS, aZ] at e4
     refine .inl ⟨rfl, ?_⟩
     clear hs hd hx
     go_simp
     exact ⟨Ext.refl _ _, rfl⟩
    ·refine .inl ⟨by decide, by decide, ?_⟩
     intro a' w' hx hs hd
     obtain ⟨y, rfl⟩ := hx.ew
     have e8 : a'.tmps[8]?.getD undef = _ := hs 8 rfl
     simp only [aL, aS, aZ] at e8
     refine .inl ⟨rfl, ?_⟩
     clear hs hd hx
     go_simp
     exact ⟨Ext.refl _ _, rfl⟩
    ·refine .inl ⟨by decide, by decide, ?_⟩
     intro a' w' hx hs hd
     obtain ⟨y, rfl⟩ := hx.ew
     have e10 : a'.tmps[10]?.getD undef = _ := hs 10 rfl
     simp only [aL, aS, aZ] at e10
     refine .inl ⟨rfl, ?_⟩
     clear hs hd hx
     go_simp
     exact ⟨Ext.refl _ _, rfl⟩
    ·refine .inr (.inl ⟨rfl, ?_⟩)
     intro a' w' hx hst hs hd
     obtain ⟨y, rfl⟩ := hx.ew
     have e34 : a'.tmps[34]?.getD undef = _ := hd 1 34 rfl rfl
     have e35 : a'.tmps[35]?.getD undef = _ := hd 2 35 rfl rfl
     refine ⟨rfl, ?_⟩
     clear hs hd hx
     go_simp
     exact (CQ1.out _ hst).mono (fun e w'' ⟨he, hx, hr⟩ => ⟨_, he, hx, rfl, hr⟩)
    ·refine .inl ⟨by decide, by decide, ?_⟩
     intro a' w' hx hs hd
     obtain ⟨y, rfl⟩ := hx.ew
     obtain ⟨e36, hR3⟩ : a'.tmps[36]?.getD undef = .agg #[.int .i64 0, .int .u64 (x : Int), .string ⟨#[]⟩] ∧ RdG y.on rb r2 := hd 3 36 rfl rfl
     refine .inl ⟨rfl, ?_⟩
     clear hs hd hx
     go_simp
     exact ⟨(Ext.refl _ _).alloc _, _, rfl, y.ext.size, Bx.newAt _ _ _ _ rfl⟩
    ·refine .inr (.inr ⟨rfl, ?_⟩)
     intro a' w' hx hst hs hd
     obtain ⟨y, rfl⟩ := hx.ew
     have e33 : a'.tmps[33]?.getD undef = _ := hd 0 33 rfl rfl
     obtain ⟨k5, e37, hk5, hB5⟩ : ∃ k, a'.tmps[37]?.getD undef = .slice (some ⟨k, 0, none⟩) 1 1 ∧ w10.heap.size ≤ k ∧ Bx y.on k [.int .i64 0, .int .u64 (x : Int), .string ⟨#[]⟩] 156 := hd 4 37 rfl rfl
     refine ⟨rfl, ?_⟩
     clear hs hd hx
     exact rel_append_row _ _ 152 rfl B' 156 3 32 _ Tryz.underlying152 info_val (by rfl) (by omega) (by omega) v 1 [.int .i64 (n : Int), .int .u64 0, .string ⟨#[]⟩] ((eval_tmp _ _).trans e33) hst k5 _ _ ((eval_tmp _ _).trans e37) hB5 rfl (by intro u hu; simp at hu; rcases hu with rfl | rfl | rfl <;> rfl) (by omega) (by have := y.ext.size; omega) (fun v' w' x o r => ⟨v', rfl, o, fun k hk => (r k hk).imp id (fun z => Nat.le_trans y.ext.size z)⟩)
   case ma4 => exact ⟨.inr (Mo.is_still _ _), .inr (Mo.is_still _ _), .inr (Mo.is_still _ _), .inl rfl, .inr (moOne_still HR1.out), .inr (moRow_still HR1.out HR3.out), trivial⟩
   case mb4 => exact ⟨.inr (Mo.is_still _ _), .inr (Mo.is_still _ _), .inr (Mo.is_still _ _), .inr (moSt_still (fun _ _ x h => RdG.ext h x HRBV.out)), .inr (moOne_still HR2.out), .inl rfl, trivial⟩
   case' q4 =>
    intro vs w' hx hRR
    obtain ⟨x11, rfl⟩ := hx.ew
    have q0 : vs 0 = _ := hRR 0 (by decide)
    have q1 : vs 1 = _ := hRR 1 (by decide)
    have q2 : vs 2 = _ := hRR 2 (by decide)
    obtain ⟨q3, hR3⟩ : vs 3 = .agg #[.int .i64 0, .int .u64 (x : Int), .string ⟨#[]⟩] ∧ RdG x11.on rb r2 := hRR 3 (by decide)
    obtain ⟨k5, q4, hk5, hB5⟩ : ∃ k, vs 4 = .slice (some ⟨k, 0, none⟩) 1 1 ∧ w10.heap.size ≤ k ∧ Bx x11.on k [.int .i64 0, .int .u64 (x : Int), .string ⟨#[]⟩] 156 := hRR 4 (by decide)
    obtain ⟨u5, q5, hO5, hr5⟩ : ∃ u, vs 5 = u ∧ x11.on.ownsRow B' 156 3 u 2 [.int .i64 (n : Int), .int .u64 0, .string ⟨#[]⟩, .int .i64 0, .int .u64 (x : Int), .string ⟨#[]⟩] ∧ ∀ k, Row u k → Row v k ∨ w10.heap.size ≤ k := hRR 5 (by decide)
    clear hRR hx
    simp only [putAll, List.take_succ_cons, List.take_zero, List.drop_succ_cons, List.drop_zero, Act.put, List.setIfInBounds_toArray, List.set_cons_zero, List.set_cons_succ, Nat.reduceAdd, Nat.zero_add]
    simp only [q0, q1, q2, q3, q4, q5]
    clear q0 q1 q2 q3 q4 q5 vs
   obtain ⟨uc2, uc3, rfl⟩ := row_slice hO5
   have nofoot : ∀ j, j ≠ rb → j < w4.heap.size → ¬ Or2 (One rb) (Row v) j := fun j hj hl q => by rcases q with q | q; exact hj q; have := (HRV.out j q).1; omega
   have E4 := hI_ (F4.out.ext x11.ext (nofoot _ NB.out.1 HK10.out.2.1))
   have E5 := hI_ (F5.out.ext x11.ext (nofoot _ NB.out.2.1 HK10.out.2.2))
   have R9 := hI_ hR3
   have O9 := hI_ hO5
   have XD := hI_ (XE.out.step x11.ext (fun j hj q => by rcases q with q | q; have q : j = rb := q; have := HRB.out; omega; have := (HRV.out j q).1; have := HRB.out; omega))
   have HRU2 : Hid (∀ k, Row (.slice uc2 2 uc3) k → w4.heap.size ≤ k) := hI_ (fun k q => by rcases hr5 k q with z | z; exact (HRV.out k z).1; have := HS10.out; omega)
   clear hR3 hO5 hk5 hB5 hr5 n1 n2 d4 BY10 F4 F5 R10 O10 XE HR1 HR2 HR3 HRV HRBV CQ1 nofoot k1 HRU
   generalize x11.on = w11 at *
   have d4 : w11.cell? ⟨w.heap.size, 0, none⟩ = some v := E4.out.cell rfl
   have z4 : w11.frozen? ⟨w.heap.size, 0, none⟩ = false := froz_of_heap E4.out.h
   go_upto_region 13 with fail
   have Y : Ext (One w.heap.size) w11 (w11.setCell ⟨w.heap.size, 0, none⟩ (.slice uc2 2 uc3)) := (Ext.refl _ _).set1 _
   have F4 := hI_ (E4.out.set (j := 0) (.slice uc2 2 uc3))
   have F5 := hI_ (E5.out.ext Y (fun q => by have q : w.heap.size + 1 = w.heap.size := q; omega))
   have R10 := hI_ (R9.out.ext Y (fun q => NB.out.1 q.symm))
   have O10 := hI_ (ownR_ext O9.out Y (fun k hk q => by have q : k = w.heap.size := q; have := HRU2.out k hk; have := HK10.out; omega))
   have XE := hI_ (XD.out.step Y (fun j hj q => by have q : j = w.heap.size := q; omega))
   clear d4 z4 Y E4 E5 R9 O9 XD x11
   generalize w11.setCell ⟨w.heap.size, 0, none⟩ (.slice uc2 2 uc3) = w12 at *
   go_wp2_with fail
   rw [rounds_succ]
   go_wp2_with fail
   refine (EN.out rb _ R10.out).mono ?_
   rintro e _ ⟨rfl, m, rfl⟩
   have G4 := hI_ (F4.out.extN ((Ext.refl _ _).drewN m))
   have G5 := hI_ (F5.out.extN ((Ext.refl _ _).drewN m))
   have O13 := hI_ (ownR_extN O10.out ((Ext.refl _ _).drewN m))
   have XF := hI_ (XE.out.drewN m)
   clear F4 F5 R10 O10 XE
   generalize w12.drewN m = w13 at *
   have g4 : w13.frozen? ⟨w.heap.size, 0, none⟩ = false := froz_of_heap G4.out.h
   have g5 : w13.frozen? ⟨w.heap.size + 1, 0, none⟩ = false := froz_of_heap G5.out.h
   have c4 : w13.cell? ⟨w.heap.size, 0, none⟩ = some (.slice uc2 2 uc3) := G4.out.cell rfl
   have c5 : w13.cell? ⟨w.heap.size + 1, 0, none⟩ = some (.int .i64 0) := G5.out.cell rfl
   have FIN : Hid (∀ sv ev, Ext Non w ((w13.setCell ⟨w.heap.size, 0, none⟩ sv).setCell ⟨w.heap.size + 1, 0, none⟩ ev) ∧ ((w13.setCell ⟨w.heap.size, 0, none⟩ sv).setCell ⟨w.heap.size + 1, 0, none⟩ ev).cell? ⟨w.heap.size, 0, none⟩ = some sv ∧ ((w13.setCell ⟨w.heap.size, 0, none⟩ sv).setCell ⟨w.heap.size + 1, 0, none⟩ ev).cell? ⟨w.heap.size + 1, 0, none⟩ = some ev ∧ Ext (fun k => k = w.heap.size ∨ k = w.heap.size + 1) w13 ((w13.setCell ⟨w.heap.size, 0, none⟩ sv).setCell ⟨w.heap.size + 1, 0, none⟩ ev)) := hI_ (fun sv ev => by
    have Y1 : Ext (One w.heap.size) w13 (w13.setCell ⟨w.heap.size, 0, none⟩ sv) := (Ext.refl _ _).set1 _
    have A4 := G4.out.set (j := 0) sv
    have A5 := G5.out.ext Y1 (fun q => by have q : w.heap.size + 1 = w.heap.size := q; omega)
    have Y2 : Ext (One (w.heap.size + 1)) (w13.setCell ⟨w.heap.size, 0, none⟩ sv) ((w13.setCell ⟨w.heap.size, 0, none⟩ sv).setCell ⟨w.heap.size + 1, 0, none⟩ ev) := (Ext.refl _ _).set1 _
    have A4' := A4.ext Y2 (fun q => by have q : w.heap.size = w.heap.size + 1 := q; omega)
    have A5' := A5.set (j := 0) ev
    refine ⟨(XF.out.setCell (.inr (Nat.le_refl _)) _).setCell (.inr (Nat.le_succ _)) _, A4'.cell rfl, A5'.cell rfl, ?_⟩
    exact (Y1.mono (fun k _ q => .inl q)).trans (Y2.mono (fun k _ q => .inr q)))
   clear G4 G5 XF
   by_cases he : en = 0
   ·have hE : (en != 0) = false := by simpa using he
    go_wp2_with fail
    obtain ⟨X0, y4, y5, X2⟩ := FIN.out (.slice uc2 2 uc3) (.int .i64 0)
    generalize (w13.setCell ⟨w.heap.size, 0, none⟩ (.slice uc2 2 uc3)).setCell ⟨w.heap.size + 1, 0, none⟩ (.int .i64 0) = w14 at *
    refine leaves_cons (f := 135) (args := #[.pointer (some ⟨w.heap.size, 0, none⟩), .pointer (some ⟨w.heap.size + 1, 0, none⟩)]) (by simp) (by simp [go_sem]) ?_
    refine (scan_idle w.heap.size (w.heap.size + 1) _).mono ?_
    rintro e u' w'' ⟨rfl, rfl, rfl⟩
    simp [Leaves, settle, results, Tryz.results120, go_sem, y4, y5]
    refine ⟨X0, fun _ => ?_, he⟩
    have O14 := ownR_ext O13.out X2 (fun k hk q => by have h1 := HRU2.out k hk; have := HK10.out; rcases q with q | q <;> omega)
    rcases O14.2 with ⟨h, h2⟩ | ⟨g, cap, cur, hv, hb, hh, -, -, hcs, htk⟩
    ·cases h2
    ·injection hv with hv1 hv2 hv3
     subst hv1
     have ce : ∀ j, j < 6 → w''.cell? ⟨g, j, none⟩ = [Value.int .i64 (n : Int), .int .u64 0, .string ⟨#[]⟩, .int .i64 0, .int .u64 (x : Int), .string ⟨#[]⟩][j]? := fun j hj => by
      rw [← htk, List.getElem?_take_of_lt (by omega)]
      unfold World.cell?
      rw [hh]
      simp
     exact ⟨g, rfl, (Array.getElem?_eq_some_iff.1 hh).1, ce 0 (by omega), ce 4 (by omega)⟩
   ·have hE : (en != 0) = true := by simpa using he
    go_wp2_with fail
    obtain ⟨X0, y4, y5, X2⟩ := FIN.out (.slice none 0 0) (.int .i64 en)
    generalize (w13.setCell ⟨w.heap.size, 0, none⟩ (.slice none 0 0)).setCell ⟨w.heap.size + 1, 0, none⟩ (.int .i64 en) = w14 at *
    refine leaves_cons (f := 135) (args := #[.pointer (some ⟨w.heap.size, 0, none⟩), .pointer (some ⟨w.heap.size + 1, 0, none⟩)]) (by simp) (by simp [go_sem]) ?_
    refine (scan_idle w.heap.size (w.heap.size + 1) _).mono ?_
    rintro e u' w'' ⟨rfl, rfl, rfl⟩
    simp [Leaves, settle, results, Tryz.results120, go_sem, y4, y5]
    exact ⟨X0, he⟩
end Go.Proofs.YtfefeepljbfcdaaGreat
