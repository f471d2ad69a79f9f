/- Joined texts: Open12G. What each proves stands at its head; no conditions beside those in its theorems. -/
import Derived.Deep.MidRow
import Derived.Deep.WholeRow
import Derived.Shelf.SlMaps.Clone
import Derived.Test.YtfefeepljbfcdaaGreatPjBV
/- The reference of layer 12: opening any bytes. -/
namespace Go.Proofs.YtfefeepljbfcdaaGreat
open Go.RowKit Go.Lib F64
set_option linter.unusedSimpArgs false
set_option linter.unusedVariables false
attribute [local go_sem] run_store_float
attribute [local go_sem low] EW.cellN EW.frozN alloc_cell_or alloc_froz_or EW.cellF EW.frozF EW.cell1 EW.froz1
attribute [local go_sem] relAt relUpon relAtT relUponT mk_stamps mk_results
attribute [local go_sem low] EW.cellO EW.frozO
def OpP (t : List UInt8) (w : World) (e : Ending) (w' : World) : Prop := Ext Non w w' ∧ ((∃ b sb rb, e = .returned (.tuple #[.pointer (some ⟨b, 0, none⟩), .int .i64 0]) ∧ RLo w' b sb rb (openG t) ∧ openB t = true ∧ w.heap.size ≤ b ∧ w.heap.size ≤ sb ∧ w.heap.size ≤ rb) ∨ (e = .returned (.tuple #[.pointer none, .int .i64 5]) ∧ openB t = false))
theorem info_item9x : (Tryz.prog.info? 78).map (fun i => (i.zero, i.size, i.bytes)) = some (some (.agg #[.string ByteArray.empty, .int .u64 0]), 2, 24) := by kernel_rfl
set_option maxHeartbeats 8000000 in
set_option maxRecDepth 100000 in
theorem ref12_Open_any (t : List UInt8) (hs : t.length ≤ 4611686018427387904) (w : World) : Calls Tryz.prog 11 #[.string (sB t)] w fun e w' => OpP t w e w' := by
 obtain ⟨e0, he0⟩ : ∃ e0, e0 = readCE (oC t) := ⟨_, rfl⟩
 have HE0 := hI_ he0
 have OB : Hid (openB t = (decide (numV 1 ⟨t, false⟩ = 76) && decide (clE 8 (oR7 t) e0 = 0) && decide (endE (oR8 t) = 0) && mayB (openG t))) := hI_ (by rw [he0]; rfl)
 clear he0
 have hN : oN t ≤ 255 := by unfold oN; have := numV_lt 1 (oR2 t); omega
 have hK : oK t ≤ 255 := by unfold oK; have := numV_lt 1 (oR5 t); omega
 have hlR7 : (oR7 t).s.length ≤ t.length := Nat.le_trans (itR_len _ _) (Nat.le_trans (numR_len 1 _) (Nat.le_trans (numR_len 4 _) (Nat.le_trans (nsR_len _ _) (Nat.le_trans (numR_len 1 _) (Nat.le_trans (textR_len _) (numR_len 1 _))))))
 have hlC : (oC t).length ≤ 4611686018427387904 := by have h1 := (textV_len (oR1 t)).1; have h2 : (oR1 t).s.length ≤ t.length := numR_len 1 _; unfold oC; omega
 have HLC := hI_ hlC
 have hlX : ∀ i, (textV (numR 4 (clR i (oR7 t)))).length ≤ 4611686018427387904 := fun i => by
  have h1 := (textV_len (numR 4 (clR i (oR7 t)))).1; have h2 := numR_len 4 (clR i (oR7 t)); have h3 := clR_len i (oR7 t); omega
 have HLX := hI_ hlX
 clear hlC hlX hlR7
 go_enter Tryz.func11, Tryz.ntmps11
 go_upto_region 1 with fail
 apply wp_region_rel (relR [moNine w.heap.size (stRow clZ) 3, moNine w.heap.size (rsRow clZ) 48, moAg w.heap.size, moOB w.heap.size, moOB w.heap.size]) (by kernel_rfl) (by kernel_rfl) (by kernel_rfl) (relR_mono _) (StepD.all ?st2) ?q2
 case st2 =>
  refine ⟨?_, ?_, ?_, ?_, ?_, trivial⟩
  ·intro a' w' hx hs hd
   obtain ⟨y, rfl⟩ := hx.ew
   refine .inl ⟨rfl, ?_⟩
   clear hs hd hx
   go_simp
   exact ⟨exG0, _, rfl, Bx.newAt _ _ _ _ rfl, y.ext.size⟩
  ·intro a' w' hx hs hd
   obtain ⟨y, rfl⟩ := hx.ew
   refine .inl ⟨rfl, ?_⟩
   clear hs hd hx
   go_simp
   exact ⟨exG0, _, rfl, Bx.newAt _ _ _ _ rfl, y.ext.size⟩
  ·intro a' w' hx hs hd
   obtain ⟨y, rfl⟩ := hx.ew
   obtain ⟨ks, e16, hS, hsn⟩ : ∃ k, a'.tmps[16]?.getD undef = .slice (some ⟨k, 0, none⟩) 9 9 ∧ Bx y.on k (stRow clZ) 3 ∧ w.heap.size ≤ k := hd 0 16 rfl rfl
   obtain ⟨kr, e17, hR, hrn⟩ : ∃ k, a'.tmps[17]?.getD undef = .slice (some ⟨k, 0, none⟩) 9 9 ∧ Bx y.on k (rsRow clZ) 48 ∧ w.heap.size ≤ k := hd 1 17 rfl rfl
   refine .inl ⟨rfl, ?_⟩
   clear hs hd hx
   go_simp
   exact ⟨Ext.refl _ _, ks, kr, rfl, hS, hR, hsn, hrn⟩
  ·intro a' w' hx hs hd
   obtain ⟨y, rfl⟩ := hx.ew
   obtain ⟨ks2, kr2, e18, hS2, hR2, hsr⟩ : ∃ sb rb, a'.tmps[18]?.getD undef = .agg (obRow 0 none 0 [] (.slice none 0 0) 0 (.slice none 0 0) sb rb).toArray ∧ Bx y.on sb (stRow clZ) 3 ∧ Bx y.on rb (rsRow clZ) 48 ∧ w.heap.size ≤ sb ∧ w.heap.size ≤ rb := hd 2 18 rfl rfl
   refine .inl ⟨rfl, ?_⟩
   clear hs hd hx
   go_simp
   exact ⟨(Ext.refl _ _).alloc _, _, ks2, kr2, rfl, Bx.newAt _ _ _ _ rfl, hS2.alloc _, hR2.alloc _, y.ext.size, hsr⟩
  ·intro a' w' hx hs hd
   obtain ⟨y, rfl⟩ := hx.ew
   obtain ⟨kb3, ks3, kr3, e19, hB3, hS3, hR3, hn3⟩ : ∃ b sb rb, a'.tmps[19]?.getD undef = .pointer (some ⟨b, 0, none⟩) ∧ Bx y.on b (obRow 0 none 0 [] (.slice none 0 0) 0 (.slice none 0 0) sb rb) 68 ∧ Bx y.on sb (stRow clZ) 3 ∧ Bx y.on rb (rsRow clZ) 48 ∧ w.heap.size ≤ b ∧ w.heap.size ≤ sb ∧ w.heap.size ≤ rb := hd 3 19 rfl rfl
   refine .inl ⟨rfl, ?_⟩
   clear hs hd hx
   go_simp
   exact ⟨Ext.refl _ _, kb3, ks3, kr3, rfl, hB3, hS3, hR3, hn3⟩
 case' q2 =>
  intro vs w' hx hRR
  obtain ⟨x1, rfl⟩ := hx.ew
  obtain ⟨ks, q0, hS, hsn⟩ : ∃ k, vs 0 = .slice (some ⟨k, 0, none⟩) 9 9 ∧ Bx x1.on k (stRow clZ) 3 ∧ w.heap.size ≤ k := hRR 0 (by decide)
  obtain ⟨kr, q1, hR, hrn⟩ : ∃ k, vs 1 = .slice (some ⟨k, 0, none⟩) 9 9 ∧ Bx x1.on k (rsRow clZ) 48 ∧ w.heap.size ≤ k := hRR 1 (by decide)
  obtain ⟨ks2, kr2, q2, hS2, hR2, hsr⟩ : ∃ sb rb, vs 2 = .agg (obRow 0 none 0 [] (.slice none 0 0) 0 (.slice none 0 0) sb rb).toArray ∧ Bx x1.on sb (stRow clZ) 3 ∧ Bx x1.on rb (rsRow clZ) 48 ∧ w.heap.size ≤ sb ∧ w.heap.size ≤ rb := hRR 2 (by decide)
  obtain ⟨kb3, ks3, kr3, q3, hB3, hS3, hR3, hn3⟩ : ∃ b sb rb, vs 3 = .pointer (some ⟨b, 0, none⟩) ∧ Bx x1.on b (obRow 0 none 0 [] (.slice none 0 0) 0 (.slice none 0 0) sb rb) 68 ∧ Bx x1.on sb (stRow clZ) 3 ∧ Bx x1.on rb (rsRow clZ) 48 ∧ w.heap.size ≤ b ∧ w.heap.size ≤ sb ∧ w.heap.size ≤ rb := hRR 3 (by decide)
  obtain ⟨b, sb, rb, q4, hB4, hS4, hR4, hn4⟩ : ∃ b sb rb, vs 4 = .pointer (some ⟨b, 0, none⟩) ∧ Bx x1.on b (obRow 0 none 0 [] (.slice none 0 0) 0 (.slice none 0 0) sb rb) 68 ∧ Bx x1.on sb (stRow clZ) 3 ∧ Bx x1.on rb (rsRow clZ) 48 ∧ w.heap.size ≤ b ∧ w.heap.size ≤ sb ∧ w.heap.size ≤ rb := hRR 4 (by decide)
  clear hRR hx
  simp only [putAll, List.take_succ_cons, List.take_zero, List.drop_succ_cons, List.drop_zero, Act.put, List.setIfInBounds_toArray, List.set_cons_zero, List.set_cons_succ, Nat.reduceAdd, Nat.zero_add]
  simp only [q0, q1, q2, q3, q4]
  clear q0 q1 q2 q3 q4 vs
 have HN4 := hI_ hn4
 have NE3 := hI_ (And.intro (bx_apart hB4 hS4 (by decide)) (And.intro (bx_apart hB4 hR4 (by decide)) (bx_apart hS4 hR4 (by decide))))
 have LT3 := hI_ (And.intro hB4.lt (And.intro hS4.lt hR4.lt))
 go_upto_region 3 with fail
 have XA := hI_ (x1.ext.alloc (.cells #[.string (sB t), .bool false] 87))
 have hsz : (x1.on.alloc (.cells #[.string (sB t), .bool false] 87)).heap.size = x1.on.heap.size + 1 := by simp
 have OP := hI_ (show OpW (x1.on.alloc (.cells #[.string (sB t), .bool false] 87)) (x1.on.heap.size + 1) b sb rb x1.on.heap.size ⟨t, false⟩ 0 none 0 [] (.slice none 0 0) [] 0 (.slice none 0 0) [] clZ from
  ⟨hB4.alloc _, Ints.nil' _, fun k o e => (nomatch e), World.ownsRow_nil _ _ _ _, World.ownsRow_nil _ _ _ _, hS4.alloc _, hR4.alloc _, RdW.new x1.on t _ rfl hs, by have := LT3.out; omega, by have := LT3.out; have := NE3.out; omega⟩)
 obtain ⟨B, hB⟩ : ∃ B, B = x1.on.heap.size + 1 := ⟨_, rfl⟩
 rw [← hB] at OP hsz
 have hxs := x1.ext.size
 have hkB : w.heap.size ≤ x1.on.heap.size := x1.ext.size
 clear hS hR hS2 hR2 hsr hB3 hS3 hR3 hn3 hB4 hS4 hR4 hn4 hsn hrn NE3 LT3 hs hxs
 generalize x1.on.heap.size = kr at *
 generalize x1.on.alloc (.cells #[.string (sB t), .bool false] 87) = w2 at *
 clear x1
 go_wp2_with fail
 refine (rd_Num kr ⟨t, false⟩ 1 (by omega) _ OP.out.rd).mono ?_
 rintro e w3 ⟨rfl, x3, hW3⟩
 obtain ⟨hd, hhd⟩ : ∃ hd, hd = numV 1 ⟨t, false⟩ := ⟨_, rfl⟩
 rw [← hhd]
 rw [← hhd] at OB
 clear hhd
 have OP3 : Hid (OpW w3 B b sb rb kr (oR1 t) 0 none 0 [] (.slice none 0 0) [] 0 (.slice none 0 0) [] clZ) := hI_ (OP.out.read x3 hW3)
 have XA3 := hI_ (XA.out.step x3 (fun i hi q => by have q : i = kr := q; omega))
 have SZ3 : B ≤ w3.heap.size := by have := x3.size; omega
 clear x3 hW3 OP XA hsz w2
 go_wp2_with fail
 refine (rd_Text kr (oR1 t) _ OP3.out.rd).mono ?_
 rintro e w4 ⟨rfl, x4, hW4⟩
 have OP4 : Hid (OpW w4 B b sb rb kr (oR2 t) 0 none 0 [] (.slice none 0 0) [] 0 (.slice none 0 0) [] clZ) := hI_ (OP3.out.read x4 hW4)
 have XA4 := hI_ (XA3.out.step x4 (fun i hi q => by have q : i = kr := q; omega))
 have SZ4 : B ≤ w4.heap.size := by have := x4.size; omega
 rw [show textV (oR1 t) = oC t from rfl]
 clear x4 hW4 OP3 XA3 SZ3 w3
 go_wp2_with fail
 refine (ref07_Read (oC t) HLC.out _).mono ?_
 rintro e w5 ⟨ca, cc, rfl, hI, hx5, hf⟩
 rw [← HE0.out]
 have OP5 := hI_ (OP4.out.extN hx5)
 have XA5 := hI_ (XA4.out.trans hx5)
 have SZ5 : B ≤ w5.heap.size := by have := hx5.size; omega
 have HI5 := hI_ hI
 have HF5 : Hid (fresh B w5 ca) := hI_ (fun k o e => ⟨by have := (hf k o e).1; omega, (hf k o e).2⟩)
 clear hI hx5 hf OP4 XA4 SZ4 w4
 obtain ⟨ep, hep⟩ : ∃ ep, ep = readCep (oC t) := ⟨_, rfl⟩
 obtain ⟨mem, hmem⟩ : ∃ mem, mem = readCxs (oC t) := ⟨_, rfl⟩
 rw [← hmem] at HI5
 rw [← hep, ← hmem]
 have HEP := hI_ hep; have HMEM := hI_ hmem
 clear hep hmem
 go_upto_region 5 with fail
 have XA6 := hI_ (XA5.out.alloc (.cells #[.int .i64 ep, .slice ca mem.length cc] 24))
 have OP6 := hI_ (OP5.out.extN ((Ext.refl Non w5).alloc (.cells #[.int .i64 ep, .slice ca mem.length cc] 24)))
 have HI6 := hI_ (HI5.out.extN ((Ext.refl Non w5).alloc (.cells #[.int .i64 ep, .slice ca mem.length cc] 24)))
 have HF6 := hI_ (HF5.out.ext2 ((Ext.refl Non w5).alloc (.cells #[.int .i64 ep, .slice ca mem.length cc] 24)) (fun _ f => f.elim))
 have BC6 := hI_ (Bx.newAt w5 [.int .i64 ep, .slice ca mem.length cc] 24 _ rfl)
 have SZ6 : B ≤ (w5.alloc (.cells #[.int .i64 ep, .slice ca mem.length cc] 24)).heap.size := by simp; omega
 clear OP5 XA5 SZ5 HI5 HF5
 generalize w5.heap.size = kc at *
 generalize w5.alloc (.cells #[.int .i64 ep, .slice ca mem.length cc] 24) = w6 at *
 clear w5
 have q0 : w6.cell? ⟨b, 0, none⟩ = some (.int .i64 0) := OP6.out.box.cell rfl
 have q1 : w6.cell? ⟨b, 1, none⟩ = some (.slice none 0 0) := OP6.out.box.cell rfl
 have f0 : w6.frozen? ⟨b, 0, none⟩ = false := froz_of_heap OP6.out.box.h
 have f1 : w6.frozen? ⟨b, 1, none⟩ = false := froz_of_heap OP6.out.box.h
 have p0 : w6.cell? ⟨kc, 0, none⟩ = some (.int .i64 ep) := BC6.out.cell rfl
 have p1 : w6.cell? ⟨kc, 1, none⟩ = some (.slice ca mem.length cc) := BC6.out.cell rfl
 go_upto_region 6 with fail
 have X7 : Ext (One b) w6 ((w6.setCell ⟨b, 0, none⟩ (.int .i64 ep)).setCell ⟨b, 1, none⟩ (.slice ca mem.length cc)) := ((Ext.refl _ _).set1 _).set1 _
 obtain ⟨B', hB'⟩ : ∃ B', B' = w6.heap.size := ⟨_, rfl⟩
 have OP7 := hI_ (OP6.out.conf (B' := B') (by omega) X7 (ep' := ep) (a' := ca) (c' := cc) (mem' := mem) ((OP6.out.box.set (j := 0) (.int .i64 ep)).set (j := 1) (.slice ca mem.length cc)) HI6.out HF6.out (by omega))
 have XA7 := hI_ (XA6.out.step X7 (fun i hi q => by have q : i = b := q; have := HN4.out; omega))
 have SZ7 : B' ≤ ((w6.setCell ⟨b, 0, none⟩ (.int .i64 ep)).setCell ⟨b, 1, none⟩ (.slice ca mem.length cc)).heap.size := by have := X7.size; omega
 clear hB'
 clear X7 q0 q1 f0 f1 p0 p1 OP6 XA6 SZ6 HI6 HF6 BC6
 generalize (w6.setCell ⟨b, 0, none⟩ (.int .i64 ep)).setCell ⟨b, 1, none⟩ (.slice ca mem.length cc) = w7 at *
 clear w6
 go_wp2_with fail
 refine (rd_Num kr (oR2 t) 1 (by omega) _ OP7.out.rd).mono ?_
 rintro e w8 ⟨rfl, x8, hW8⟩
 have OP8 : Hid (OpW w8 B' b sb rb kr (oR3 t) ep ca cc mem (.slice none 0 0) [] 0 (.slice none 0 0) [] clZ) := hI_ (OP7.out.read x8 hW8)
 have XA8 := hI_ (XA7.out.step x8 (fun i hi q => by have q : i = kr := q; omega))
 have SZ8 : B' ≤ w8.heap.size := by have := x8.size; omega
 rw [show numV 1 (oR2 t) = oN t from rfl]
 clear x8 hW8 OP7 XA7 SZ7 w7
 have HX1 : Hid (oNext t = nsV (oN t) (oR3 t) ∧ oR4 t = nsR (oN t) (oR3 t)) := hI_ ⟨rfl, rfl⟩
 have HLN := hI_ (nsV_len · (oR3 t))
 have HNL : Hid (∀ x ∈ oNext t, I64 x) := hI_ (fun x hx => by have := nsV_lt (oN t) (oR3 t) x hx; unfold I64; omega)
 generalize oN t = N at *
 go_wp2_with fail
 go_loopg [10] N (fun n iv wr => ∃ (i : Nat) (v : Value) (z : EW Non w), i ≤ N ∧ n = N - i ∧ iv = .int .i64 i ∧ wr = z.on ∧ Hid (OpW wr B' b sb rb kr (nsR i (oR3 t)) ep ca cc mem v (nsV i (oR3 t)) 0 (.slice none 0 0) [] clZ) ∧ B' ≤ wr.heap.size)
 case atStart =>
  obtain ⟨z, hz⟩ := XA8.out.ew
  subst hz
  exact ⟨0, .slice none 0 0, z, Nat.zero_le _, rfl, rfl, rfl, OP8, SZ8⟩
 case round =>
  obtain ⟨i, v, z, hi, hn, rfl, rfl, OPi, SZi⟩ := hrel
  have HG := hI_ hn; clear hn
  clear OP8 XA8 SZ8
  by_cases hlt : i < N
  ·have XZ := hI_ z.ext
   generalize z.on = wi at *
   clear z
   have ROW : Hid (wi.ownsRow B' 3 1 v i ((nsV i (oR3 t)).map (Value.int .i64))) := hI_ (by have h := OPi.out.nx; rwa [HLN.out i] at h)
   have HRV := hI_ (own_row ROW.out)
   have hBB := OPi.out.hB
   have q2 : wi.cell? ⟨b, 2, none⟩ = some v := OPi.out.box.cell rfl
   have n1 : One kr b = False := by simp only [eq_iff_iff, iff_false]; intro q; exact OPi.out.ne.2.2.1 q
   have n2 : Row v b = False := by simp only [eq_iff_iff, iff_false]; intro q; have := (HRV.out b q).1; omega
   have HRB : Hid (¬ Row v kr) := hI_ (fun q => by have := (HRV.out _ q).1; omega)
   have HR1 : Hid (∀ k, One kr k → k < wi.heap.size) := hI_ (fun k q => by have q : k = kr := q; omega)
   have HR2 : Hid (∀ k, Row v k → k < wi.heap.size) := hI_ (fun k q => (HRV.out k q).2)
   have HR3 : Hid (∀ k, One kr k → ¬ Row v k) := hI_ (fun k q r => by have q : k = kr := q; subst q; exact HRB.out r)
   have NSV := hI_ (nsV_map i (oR3 t))
   obtain ⟨num, hnum⟩ : ∃ num, num = numV 1 (nsR i (oR3 t)) := ⟨_, rfl⟩
   have CN : Hid (∀ w', RdW w' kr (nsR i (oR3 t)) → Calls Tryz.prog 35 #[.pointer (some ⟨kr, 0, none⟩), .int .i64 1] w' fun e w'' => e = .returned (.int .i64 (num : Int)) ∧ Ext (One kr) w' w'' ∧ RdW w'' kr (nsR (i + 1) (oR3 t))) := hI_ (fun w' h => by rw [hnum]; exact rd_Num kr (nsR i (oR3 t)) 1 (by omega) w' h)
   rw [← hnum] at NSV
   clear hnum
   obtain ⟨row, hrow⟩ : ∃ row, row = (nsV i (oR3 t)).map (Value.int .i64) := ⟨_, rfl⟩
   obtain ⟨row2, hrow2⟩ : ∃ row2, row2 = (nsV (i + 1) (oR3 t)).map (Value.int .i64) := ⟨_, rfl⟩
   rw [← hrow, ← hrow2] at NSV
   rw [← hrow] at ROW
   have HRW2 := hI_ hrow2
   clear hrow hrow2
   go_upto_region 10 with fail
   apply wp_region_wr 11 [Mo.is _, Mo.is _, Mo.is _, Mo.is _, Mo.is _, Mo.is _, moSt (.int .i64 (num : Int)) (fun w' => RdW w' kr (nsR (i + 1) (oR3 t))) (fun _ _ x h => RdW.extN h x), moOne wi.heap.size [.int .i64 (num : Int)] 3, moRow v wi.heap.size B' 3 1 (i + 1) row2, Mo.is _, Mo.is _] (One kr) 6 (fun w' => RdW w' kr (nsR i (oR3 t))) (Row v) 8 (fun w' => w'.ownsRow B' 3 1 v i row) (by kernel_rfl) (by kernel_rfl) (by kernel_rfl) (by kernel_rfl) (by kernel_rfl) (by decide) (by kernel_rfl) (by decide) ?ta3 ?tb3 ?ha3 ?hb3 ?hc3 ?hd3 ?ma3 ?mb3 ?st3 ?q3
   case ta3 => exact OPi.out.rd
   case tb3 => exact ROW.out
   case ha3 => exact fun _ _ x h => RdW.extN h x
   case hb3 => exact fun _ _ x h => RdW.ext h x HRB.out
   case hc3 => exact fun _ _ x h => ownR_extN h x
   case hd3 => exact fun _ _ x h => ownR_ext h x (fun k hk hs => HR3.out k hs hk)
   case st3 =>
    refine ⟨?_, ?_, ?_, ?_, ?_, ?_, ?_, ?_, ?_, ?_, ?_, trivial⟩
    ·refine .inl ⟨by decide, by decide, ?_⟩
     intro a' w' hx hs hd
     obtain ⟨y, rfl⟩ := hx.ew
     have e4 : a'.tmps[4]?.getD undef = _ := hs 4 rfl
     simp only [aL, aS, aZ] at e4
     refine .inl ⟨rfl, ?_⟩
     clear hs hd hx
     go_simp
     exact ⟨Ext.refl _ _, rfl⟩
    ·refine .inl ⟨by decide, by decide, ?_⟩
     intro a' w' hx hs hd
     obtain ⟨y, rfl⟩ := hx.ew
     have e4 : a'.tmps[4]?.getD undef = _ := hs 4 rfl
     simp only [aL, aS, aZ] at e4
     refine .inl ⟨rfl, ?_⟩
     clear hs hd hx
     go_simp
     exact ⟨Ext.refl _ _, rfl⟩
    ·refine .inl ⟨by decide, by decide, ?_⟩
     intro a' w' hx hs hd
     obtain ⟨y, rfl⟩ := hx.ew
     have e43 : a'.tmps[43]?.getD undef = _ := hd 1 43 rfl rfl
     refine .inl ⟨rfl, ?_⟩
     clear hs hd hx
     go_simp
     exact ⟨Ext.refl _ _, rfl⟩
    ·refine .inl ⟨by decide, by decide, ?_⟩
     intro a' w' hx hs hd
     obtain ⟨y, rfl⟩ := hx.ew
     have e44 : a'.tmps[44]?.getD undef = _ := hd 2 44 rfl rfl
     refine .inl ⟨rfl, ?_⟩
     clear hs hd hx
     go_simp
     exact ⟨Ext.refl _ _, rfl⟩
    ·refine .inl ⟨by decide, by decide, ?_⟩
     intro a' w' hx hs hd
     obtain ⟨y, rfl⟩ := hx.ew
     have e45 : a'.tmps[45]?.getD undef = _ := hd 3 45 rfl rfl
     refine .inl ⟨rfl, ?_⟩
     clear hs hd hx
     go_simp
     exact ⟨Ext.refl _ _, rfl⟩
    ·refine .inl ⟨by decide, by decide, ?_⟩
     intro a' w' hx hs hd
     obtain ⟨y, rfl⟩ := hx.ew
     have e5 : a'.tmps[5]?.getD undef = _ := hs 5 rfl
     simp only [aL, aS, aZ] at e5
     refine .inl ⟨rfl, ?_⟩
     clear hs hd hx
     go_simp
     exact ⟨Ext.refl _ _, rfl⟩
    ·refine .inr (.inl ⟨rfl, ?_⟩)
     intro a' w' hx hst hs hd
     obtain ⟨y, rfl⟩ := hx.ew
     have e47 : a'.tmps[47]?.getD undef = _ := hd 5 47 rfl rfl
     refine ⟨rfl, ?_⟩
     clear hs hd hx
     go_simp
     exact (CN.out _ hst).mono (fun e w'' ⟨he, hx, hr⟩ => ⟨_, he, hx, rfl, hr⟩)
    ·refine .inl ⟨by decide, by decide, ?_⟩
     intro a' w' hx hs hd
     obtain ⟨y, rfl⟩ := hx.ew
     obtain ⟨e48, hR3⟩ : a'.tmps[48]?.getD undef = .int .i64 (num : Int) ∧ RdW y.on kr (nsR (i + 1) (oR3 t)) := hd 6 48 rfl rfl
     refine .inl ⟨rfl, ?_⟩
     clear hs hd hx
     go_simp
     exact ⟨(Ext.refl _ _).alloc _, _, rfl, y.ext.size, Bx.newAt _ _ _ _ rfl⟩
    ·refine .inr (.inr ⟨rfl, ?_⟩)
     intro a' w' hx hst hs hd
     obtain ⟨y, rfl⟩ := hx.ew
     have e46 : a'.tmps[46]?.getD undef = _ := hd 4 46 rfl rfl
     obtain ⟨k4, e49, hk4, hB4⟩ : ∃ k, a'.tmps[49]?.getD undef = .slice (some ⟨k, 0, none⟩) 1 1 ∧ wi.heap.size ≤ k ∧ Bx y.on k [.int .i64 (num : Int)] 3 := hd 7 49 rfl rfl
     refine ⟨rfl, ?_⟩
     clear hs hd hx
     exact rel_append_row _ _ 22 rfl B' 3 1 8 _ Tryz.underlying22 info_int1 (by rfl) (by omega) (by omega) v i row ((eval_tmp _ _).trans e46) hst k4 _ _ ((eval_tmp _ _).trans e49) hB4 rfl (by intro u hu; simp at hu; subst hu; rfl) (by omega) (by have := y.ext.size; omega) (fun v' w' x o r => ⟨v', rfl, by rw [NSV.out]; exact o, fun k hk => (r k hk).imp id (fun z => Nat.le_trans y.ext.size z)⟩)
    ·refine .inl ⟨by decide, by decide, ?_⟩
     intro a' w' hx hs hd
     obtain ⟨y, rfl⟩ := hx.ew
     have e42 : a'.tmps[42]?.getD undef = _ := hd 0 42 rfl rfl
     refine .inl ⟨rfl, ?_⟩
     clear hs hd hx
     go_simp
     exact ⟨Ext.refl _ _, rfl⟩
    ·refine .inl ⟨by decide, by decide, ?_⟩
     intro a' w' hx hs hd
     obtain ⟨y, rfl⟩ := hx.ew
     have e51 : a'.tmps[51]?.getD undef = _ := hd 9 51 rfl rfl
     refine .inl ⟨rfl, ?_⟩
     clear hs hd hx
     go_simp
     exact ⟨Ext.refl _ _, rfl⟩
   case ma3 => exact ⟨.inr (Mo.is_still _ _), .inr (Mo.is_still _ _), .inr (Mo.is_still _ _), .inr (Mo.is_still _ _), .inr (Mo.is_still _ _), .inr (Mo.is_still _ _), .inl rfl, .inr (moOne_still HR1.out), .inr (moRow_still HR1.out HR3.out), .inr (Mo.is_still _ _), .inr (Mo.is_still _ _), trivial⟩
   case mb3 => exact ⟨.inr (Mo.is_still _ _), .inr (Mo.is_still _ _), .inr (Mo.is_still _ _), .inr (Mo.is_still _ _), .inr (Mo.is_still _ _), .inr (Mo.is_still _ _), .inr (moSt_still (fun _ _ x h => RdW.ext h x HRB.out)), .inr (moOne_still HR2.out), .inl rfl, .inr (Mo.is_still _ _), .inr (Mo.is_still _ _), trivial⟩
   case' q3 =>
    intro vs w' hx hRR
    obtain ⟨x9, rfl⟩ := hx.ew
    have q0 : vs 0 = _ := hRR 0 (by decide)
    have q1 : vs 1 = _ := hRR 1 (by decide)
    have q2 : vs 2 = _ := hRR 2 (by decide)
    have q3 : vs 3 = _ := hRR 3 (by decide)
    have q4 : vs 4 = _ := hRR 4 (by decide)
    have q5 : vs 5 = _ := hRR 5 (by decide)
    obtain ⟨q6, hR3⟩ : vs 6 = .int .i64 (num : Int) ∧ RdW x9.on kr (nsR (i + 1) (oR3 t)) := hRR 6 (by decide)
    obtain ⟨k4, q7, hk4, hB4⟩ : ∃ k, vs 7 = .slice (some ⟨k, 0, none⟩) 1 1 ∧ wi.heap.size ≤ k ∧ Bx x9.on k [.int .i64 (num : Int)] 3 := hRR 7 (by decide)
    obtain ⟨u5, q8, hO5, hr5⟩ : ∃ u, vs 8 = u ∧ x9.on.ownsRow B' 3 1 u (i + 1) row2 ∧ ∀ k, Row u k → Row v k ∨ wi.heap.size ≤ k := hRR 8 (by decide)
    have q9 : vs 9 = _ := hRR 9 (by decide)
    have q10 : vs 10 = _ := hRR 10 (by decide)
    clear hRR hx
    simp only [putAll, List.take_succ_cons, List.take_zero, List.drop_succ_cons, List.drop_zero, Act.put, List.setIfInBounds_toArray, List.set_cons_zero, List.set_cons_succ, Nat.reduceAdd, Nat.zero_add]
    simp only [q0, q1, q2, q3, q4, q5, q6, q7, q8, q9, q10]
    clear q0 q1 q2 q3 q4 q5 q6 q7 q8 q9 q10 vs
   obtain ⟨ua, uc, hus⟩ := row_slice hO5
   subst hus
   have hsz9 := x9.ext.size
   have hNX : x9.on.ownsRow B' 3 1 (.slice ua (i + 1) uc) (nsV (i + 1) (oR3 t)).length ((nsV (i + 1) (oR3 t)).map (Value.int .i64)) := by rw [HLN.out, ← HRW2.out]; exact hO5
   have HZ9 := hI_ (XZ.out.step x9.ext (fun j hj q => by rcases q with q | q; have q : j = kr := q; omega; have := (HRV.out _ q).1; omega))
   have HGR := hI_ (OPi.out.grown x9.ext (fun k q => (HRV.out k q).1) hR3)
   have HR9 := hI_ hR3; have HN9 := hI_ hNX
   clear hR3 hO5 hk4 hB4 hr5 n1 n2 q2 hNX
   generalize x9.on = w9 at *
   clear x9
   have OP9 : Hid (∀ v' nx2, w9.ownsRow B' 3 1 v' (nx2 : List Int).length (nx2.map (Value.int .i64)) → Bx w9 b (obRow ep ca cc mem v 0 (.slice none 0 0) sb rb) 68 → OpW (w9.setCell ⟨b, 2, none⟩ v') B' b sb rb kr (nsR (i + 1) (oR3 t)) ep ca cc mem v' nx2 0 (.slice none 0 0) [] clZ) := hI_ (fun v' nx2 h hb => by
    obtain ⟨g1, g2, g3, g4, g5⟩ := HGR.out
    have X1 : Ext (One b) w9 (w9.setCell ⟨b, 2, none⟩ v') := (Ext.refl _ _).set1 _
    have ne := OPi.out.ne; have hB := OPi.out.hB
    exact ⟨hb.set (j := 2) v', g1.ext X1 (fun k o e q => (g5 k o e).2.1 q), fun k o e => by
     obtain ⟨z1, z2, z3, z4, z5, vs, fr, z6⟩ := g5 k o e
     exact ⟨z1, z2, z3, z4, z5, vs, fr, (X1.block k (Array.getElem?_eq_some_iff.1 z6).1 (fun q => z2 q)).trans z6⟩, ownR_ext h X1 (fun k hk q => by have := (own_row h k hk).1; have q : k = b := q; omega), World.ownsRow_nil _ _ _ _, g3.ext X1 (fun q => ne.1 q.symm), g4.ext X1 (fun q => ne.2.1 q.symm), HR9.out.ext X1 (fun q => ne.2.2.1 q.symm), hB, ne⟩)
   have p2 : w9.cell? ⟨b, 2, none⟩ = some v := HGR.out.2.1.cell rfl
   have f2 : w9.frozen? ⟨b, 2, none⟩ = false := froz_of_heap HGR.out.2.1.h
   go_wp2_with fail
   have X1 : Ext (One b) w9 (w9.setCell ⟨b, 2, none⟩ (.slice ua (i + 1) uc)) := (Ext.refl _ _).set1 _
   go_roundg (N - (i + 1))
   case measure => have := HG.out; omega
   case rel => exact ⟨i + 1, .slice ua (i + 1) uc, ⟨_, HZ9.out.step X1 (fun j hj q => by have q : j = b := q; have := HN4.out; omega)⟩, hlt, rfl, by go_num, rfl, hI_ (OP9.out _ _ HN9.out HGR.out.2.1), by have := X1.size; omega⟩
  ·obtain rfl : i = N := by omega
   have XZ := hI_ z.ext
   generalize z.on = wi at *
   clear z
   have OPn : Hid (OpW wi B' b sb rb kr (oR4 t) ep ca cc mem v (oNext t) 0 (.slice none 0 0) [] clZ) := hI_ (by rw [HX1.out.1, HX1.out.2]; exact OPi.out)
   clear OPi
   go_wp2_with fail
   refine (rd_Num kr (oR4 t) 4 (by omega) _ OPn.out.rd).mono ?_
   rintro e w10 ⟨rfl, x10, hW10⟩
   have OP10 : Hid (OpW w10 B' b sb rb kr (oR5 t) ep ca cc mem v (oNext t) 0 (.slice none 0 0) [] clZ) := hI_ (OPn.out.read x10 hW10)
   have XA10 := hI_ (XZ.out.step x10 (fun i hi q => by have q : i = kr := q; omega))
   have SZ10 : B' ≤ w10.heap.size := by have := x10.size; omega
   rw [show ((numV 4 (oR4 t) : Nat) : Int) = oDone t from rfl]
   clear x10 hW10 OPn XZ SZi wi
   have q3 : w10.cell? ⟨b, 3, none⟩ = some (.int .i64 0) := OP10.out.box.cell rfl
   have f3 : w10.frozen? ⟨b, 3, none⟩ = false := froz_of_heap OP10.out.box.h
   go_upto_region 12 with fail
   have X11 : Ext (One b) w10 (w10.setCell ⟨b, 3, none⟩ (.int .i64 (oDone t))) := (Ext.refl _ _).set1 _
   have OP11 := hI_ (OP10.out.put X11 (OP10.out.box.set (j := 3) (.int .i64 (oDone t))) OP10.out.nx OP10.out.it)
   have XA11 := hI_ (XA10.out.step X11 (fun i hi q => by have q : i = b := q; have := HN4.out; omega))
   have SZ11 : B' ≤ (w10.setCell ⟨b, 3, none⟩ (.int .i64 (oDone t))).heap.size := by have := X11.size; omega
   clear X11 q3 f3 OP10 XA10 SZ10
   generalize w10.setCell ⟨b, 3, none⟩ (.int .i64 (oDone t)) = w11 at *
   clear w10
   go_wp2_with fail
   refine (rd_Num kr (oR5 t) 1 (by omega) _ OP11.out.rd).mono ?_
   rintro e w12 ⟨rfl, x12, hW12⟩
   have OP12 : Hid (OpW w12 B' b sb rb kr (oR6 t) ep ca cc mem v (oNext t) (oDone t) (.slice none 0 0) [] clZ) := hI_ (OP11.out.read x12 hW12)
   have XA12 := hI_ (XA11.out.step x12 (fun i hi q => by have q : i = kr := q; omega))
   have SZ12 : B' ≤ w12.heap.size := by have := x12.size; omega
   rw [show numV 1 (oR5 t) = oK t from rfl]
   clear x12 hW12 OP11 XA11 SZ11 w11
   have HX2 : Hid (oItems t = itV (oK t) (oR6 t) ∧ oR7 t = itR (oK t) (oR6 t)) := hI_ ⟨rfl, rfl⟩
   have HLI := hI_ (itV_len · (oR6 t))
   generalize oK t = K at *
   generalize v = v2 at *
   go_wp2_with fail
   go_loopg [11, 12] K (fun n iv kv wr => ∃ (i : Nat) (v : Value) (z : EW Non w), i ≤ K ∧ n = K - i ∧ iv = .int .i64 i ∧ wr = z.on ∧ Hid (OpW wr B' b sb rb kr (itR i (oR6 t)) ep ca cc mem v2 (oNext t) (oDone t) v (itV i (oR6 t)) clZ) ∧ B' ≤ wr.heap.size)
   case atStart =>
    obtain ⟨z, hz⟩ := XA12.out.ew
    subst hz
    exact ⟨0, .slice none 0 0, z, Nat.zero_le _, rfl, rfl, rfl, OP12, SZ12⟩
   case round =>
    clear OP12 XA12 SZ12 hlt hi
    obtain ⟨i, v, z, hi, hn, rfl, rfl, OPi, SZi⟩ := hrel
    have HG2 := hI_ hn; clear hn
    by_cases hlt : i < K
    ·have XZ := hI_ z.ext
     generalize z.on = wh at *
     clear z
     go_wp2_with fail
     refine (rd_Text kr (itR i (oR6 t)) _ OPi.out.rd).mono ?_
     rintro e wi ⟨rfl, x13, hW13⟩
     have OPj := hI_ (OPi.out.read x13 hW13)
     have XZj := hI_ (XZ.out.step x13 (fun i hi q => by have q : i = kr := q; omega))
     have SZj : B' ≤ wi.heap.size := by have := x13.size; omega
     clear x13 hW13 OPi XZ SZi wh
     have ROW : Hid (wi.ownsRow B' 78 2 v i ((itV i (oR6 t)).flatMap itC)) := hI_ (by have h := OPj.out.it; rwa [HLI.out i] at h)
     have HRV := hI_ (own_row ROW.out)
     have HRA := hI_ (rows_apart OPj.out.nx ROW.out (by decide))
     have hBB := OPj.out.hB
     have q4 : wi.cell? ⟨b, 4, none⟩ = some v := OPj.out.box.cell rfl
     have n1 : One kr b = False := by simp only [eq_iff_iff, iff_false]; intro q; exact OPj.out.ne.2.2.1 q
     have n2 : Row v b = False := by simp only [eq_iff_iff, iff_false]; intro q; have := (HRV.out b q).1; omega
     have HRB : Hid (¬ Row v kr) := hI_ (fun q => by have := (HRV.out _ q).1; omega)
     have HR1 : Hid (∀ k, One kr k → k < wi.heap.size) := hI_ (fun k q => by have q : k = kr := q; omega)
     have HR2 : Hid (∀ k, Row v k → k < wi.heap.size) := hI_ (fun k q => (HRV.out k q).2)
     have HR3 : Hid (∀ k, One kr k → ¬ Row v k) := hI_ (fun k q r => by have q : k = kr := q; subst q; exact HRB.out r)
     have NSV := hI_ (itV_map i (oR6 t))
     obtain ⟨num, hnum⟩ : ∃ num, num = numV 8 (textR (itR i (oR6 t))) := ⟨_, rfl⟩
     obtain ⟨key, hkey⟩ : ∃ key, key = sB (textV (itR i (oR6 t))) := ⟨_, rfl⟩
     have CN : Hid (∀ w', RdW w' kr (textR (itR i (oR6 t))) → Calls Tryz.prog 38 #[.pointer (some ⟨kr, 0, none⟩), .int .i64 8] w' fun e w'' => e = .returned (.int .u64 (num : Int)) ∧ Ext (One kr) w' w'' ∧ RdW w'' kr (itR (i + 1) (oR6 t))) := hI_ (fun w' h => by rw [hnum]; exact rd_Bits kr (textR (itR i (oR6 t))) 8 (by omega) w' h)
     rw [← hnum, ← hkey] at NSV
     rw [← hkey]
     clear hnum hkey
     obtain ⟨row, hrow⟩ : ∃ row, row = (itV i (oR6 t)).flatMap itC := ⟨_, rfl⟩
     obtain ⟨row2, hrow2⟩ : ∃ row2, row2 = (itV (i + 1) (oR6 t)).flatMap itC := ⟨_, rfl⟩
     rw [← hrow, ← hrow2] at NSV
     rw [← hrow] at ROW
     have HRW2 := hI_ hrow2
     clear hrow hrow2
     go_upto_region 17 with fail
     apply wp_region_wr 13 [Mo.is _, Mo.is _, Mo.is _, Mo.is _, Mo.is _, Mo.is _, Mo.is _, moSt (.int .u64 (num : Int)) (fun w' => RdW w' kr (itR (i + 1) (oR6 t))) (fun _ _ x h => RdW.extN h x), Mo.is _, moOne wi.heap.size [.string key, .int .u64 (num : Int)] 78, moRow v wi.heap.size B' 78 2 (i + 1) row2, Mo.is _, Mo.is _] (One kr) 7 (fun w' => RdW w' kr (textR (itR i (oR6 t)))) (Row v) 10 (fun w' => w'.ownsRow B' 78 2 v i row) (by kernel_rfl) (by kernel_rfl) (by kernel_rfl) (by kernel_rfl) (by kernel_rfl) (by decide) (by kernel_rfl) (by decide) ?ta4 ?tb4 ?ha4 ?hb4 ?hc4 ?hd4 ?ma4 ?mb4 ?st4 ?q4
     case ta4 => exact OPj.out.rd
     case tb4 => exact ROW.out
     case ha4 => exact fun _ _ x h => RdW.extN h x
     case hb4 => exact fun _ _ x h => RdW.ext h x HRB.out
     case hc4 => exact fun _ _ x h => ownR_extN h x
     case hd4 => exact fun _ _ x h => ownR_ext h x (fun k hk hs => HR3.out k hs hk)
     case st4 =>
      refine ⟨?_, ?_, ?_, ?_, ?_, ?_, ?_, ?_, ?_, ?_, ?_, ?_, ?_, trivial⟩
      ·refine .inl ⟨by decide, by decide, ?_⟩
       intro a' w' hx hs hd
       obtain ⟨y, rfl⟩ := hx.ew
       have e4 : a'.tmps[4]?.getD undef = _ := hs 4 rfl
       simp only [aL, aS, aZ] at e4
       refine .inl ⟨rfl, ?_⟩
       clear hs hd hx
       go_simp
       exact ⟨Ext.refl _ _, rfl⟩
      ·refine .inl ⟨by decide, by decide, ?_⟩
       intro a' w' hx hs hd
       obtain ⟨y, rfl⟩ := hx.ew
       have e4 : a'.tmps[4]?.getD undef = _ := hs 4 rfl
       simp only [aL, aS, aZ] at e4
       refine .inl ⟨rfl, ?_⟩
       clear hs hd hx
       go_simp
       exact ⟨Ext.refl _ _, rfl⟩
      ·refine .inl ⟨by decide, by decide, ?_⟩
       intro a' w' hx hs hd
       obtain ⟨y, rfl⟩ := hx.ew
       have e68 : a'.tmps[68]?.getD undef = _ := hd 1 68 rfl rfl
       refine .inl ⟨rfl, ?_⟩
       clear hs hd hx
       go_simp
       exact ⟨Ext.refl _ _, rfl⟩
      ·refine .inl ⟨by decide, by decide, ?_⟩
       intro a' w' hx hs hd
       obtain ⟨y, rfl⟩ := hx.ew
       have e69 : a'.tmps[69]?.getD undef = _ := hd 2 69 rfl rfl
       refine .inl ⟨rfl, ?_⟩
       clear hs hd hx
       go_simp
       exact ⟨Ext.refl _ _, rfl⟩
      ·refine .inl ⟨by decide, by decide, ?_⟩
       intro a' w' hx hs hd
       obtain ⟨y, rfl⟩ := hx.ew
       have e70 : a'.tmps[70]?.getD undef = _ := hd 3 70 rfl rfl
       refine .inl ⟨rfl, ?_⟩
       clear hs hd hx
       go_simp
       exact ⟨Ext.refl _ _, rfl⟩
      ·refine .inl ⟨by decide, by decide, ?_⟩
       intro a' w' hx hs hd
       obtain ⟨y, rfl⟩ := hx.ew
       have e12 : a'.tmps[12]?.getD undef = _ := hs 12 rfl
       simp only [aL, aS, aZ] at e12
       refine .inl ⟨rfl, ?_⟩
       clear hs hd hx
       go_simp
       exact ⟨Ext.refl _ _, rfl⟩
      ·refine .inl ⟨by decide, by decide, ?_⟩
       intro a' w' hx hs hd
       obtain ⟨y, rfl⟩ := hx.ew
       have e5 : a'.tmps[5]?.getD undef = _ := hs 5 rfl
       simp only [aL, aS, aZ] at e5
       refine .inl ⟨rfl, ?_⟩
       clear hs hd hx
       go_simp
       exact ⟨Ext.refl _ _, rfl⟩
      ·refine .inr (.inl ⟨rfl, ?_⟩)
       intro a' w' hx hst hs hd
       obtain ⟨y, rfl⟩ := hx.ew
       have e73 : a'.tmps[73]?.getD undef = _ := hd 6 73 rfl rfl
       refine ⟨rfl, ?_⟩
       clear hs hd hx
       go_simp
       exact (CN.out _ hst).mono (fun e w'' ⟨he, hx, hr⟩ => ⟨_, he, hx, rfl, hr⟩)
      ·refine .inl ⟨by decide, by decide, ?_⟩
       intro a' w' hx hs hd
       obtain ⟨y, rfl⟩ := hx.ew
       have e72 : a'.tmps[72]?.getD undef = _ := hd 5 72 rfl rfl
       obtain ⟨e74, hR3⟩ : a'.tmps[74]?.getD undef = .int .u64 (num : Int) ∧ RdW y.on kr (itR (i + 1) (oR6 t)) := hd 7 74 rfl rfl
       refine .inl ⟨rfl, ?_⟩
       clear hs hd hx
       go_simp
       exact ⟨Ext.refl _ _, rfl⟩
      ·refine .inl ⟨by decide, by decide, ?_⟩
       intro a' w' hx hs hd
       obtain ⟨y, rfl⟩ := hx.ew
       have e75 : a'.tmps[75]?.getD undef = _ := hd 8 75 rfl rfl
       refine .inl ⟨rfl, ?_⟩
       clear hs hd hx
       go_simp
       exact ⟨(Ext.refl _ _).alloc _, _, rfl, y.ext.size, Bx.newAt _ _ _ _ rfl⟩
      ·refine .inr (.inr ⟨rfl, ?_⟩)
       intro a' w' hx hst hs hd
       obtain ⟨y, rfl⟩ := hx.ew
       have e71 : a'.tmps[71]?.getD undef = _ := hd 4 71 rfl rfl
       obtain ⟨k4, e76, hk4, hB4⟩ : ∃ k, a'.tmps[76]?.getD undef = .slice (some ⟨k, 0, none⟩) 1 1 ∧ wi.heap.size ≤ k ∧ Bx y.on k [.string key, .int .u64 (num : Int)] 78 := hd 9 76 rfl rfl
       refine ⟨rfl, ?_⟩
       clear hs hd hx
       exact rel_append_row _ _ 66 rfl B' 78 2 24 _ Tryz.underlying66 info_item9x (by rfl) (by omega) (by omega) v i row ((eval_tmp _ _).trans e71) hst k4 _ _ ((eval_tmp _ _).trans e76) hB4 rfl (by intro u hu; simp at hu; rcases hu with rfl | rfl <;> rfl) (by omega) (by have := y.ext.size; omega) (fun v' w' x o r => ⟨v', rfl, by rw [NSV.out]; exact o, fun k hk => (r k hk).imp id (fun z => Nat.le_trans y.ext.size z)⟩)
      ·refine .inl ⟨by decide, by decide, ?_⟩
       intro a' w' hx hs hd
       obtain ⟨y, rfl⟩ := hx.ew
       have e67 : a'.tmps[67]?.getD undef = _ := hd 0 67 rfl rfl
       refine .inl ⟨rfl, ?_⟩
       clear hs hd hx
       go_simp
       exact ⟨Ext.refl _ _, rfl⟩
      ·refine .inl ⟨by decide, by decide, ?_⟩
       intro a' w' hx hs hd
       obtain ⟨y, rfl⟩ := hx.ew
       have e78 : a'.tmps[78]?.getD undef = _ := hd 11 78 rfl rfl
       refine .inl ⟨rfl, ?_⟩
       clear hs hd hx
       go_simp
       exact ⟨Ext.refl _ _, rfl⟩
     case ma4 => exact ⟨.inr (Mo.is_still _ _), .inr (Mo.is_still _ _), .inr (Mo.is_still _ _), .inr (Mo.is_still _ _), .inr (Mo.is_still _ _), .inr (Mo.is_still _ _), .inr (Mo.is_still _ _), .inl rfl, .inr (Mo.is_still _ _), .inr (moOne_still HR1.out), .inr (moRow_still HR1.out HR3.out), .inr (Mo.is_still _ _), .inr (Mo.is_still _ _), trivial⟩
     case mb4 => exact ⟨.inr (Mo.is_still _ _), .inr (Mo.is_still _ _), .inr (Mo.is_still _ _), .inr (Mo.is_still _ _), .inr (Mo.is_still _ _), .inr (Mo.is_still _ _), .inr (Mo.is_still _ _), .inr (moSt_still (fun _ _ x h => RdW.ext h x HRB.out)), .inr (Mo.is_still _ _), .inr (moOne_still HR2.out), .inl rfl, .inr (Mo.is_still _ _), .inr (Mo.is_still _ _), trivial⟩
     case' q4 =>
      intro vs w' hx hRR
      obtain ⟨x9, rfl⟩ := hx.ew
      have q0 : vs 0 = _ := hRR 0 (by decide)
      have q1 : vs 1 = _ := hRR 1 (by decide)
      have q2 : vs 2 = _ := hRR 2 (by decide)
      have q3 : vs 3 = _ := hRR 3 (by decide)
      have q4 : vs 4 = _ := hRR 4 (by decide)
      have q5 : vs 5 = _ := hRR 5 (by decide)
      have q6 : vs 6 = _ := hRR 6 (by decide)
      obtain ⟨q7, hR3⟩ : vs 7 = .int .u64 (num : Int) ∧ RdW x9.on kr (itR (i + 1) (oR6 t)) := hRR 7 (by decide)
      have q8 : vs 8 = _ := hRR 8 (by decide)
      obtain ⟨k4, q9, hk4, hB4⟩ : ∃ k, vs 9 = .slice (some ⟨k, 0, none⟩) 1 1 ∧ wi.heap.size ≤ k ∧ Bx x9.on k [.string key, .int .u64 (num : Int)] 78 := hRR 9 (by decide)
      obtain ⟨u5, q10, hO5, hr5⟩ : ∃ u, vs 10 = u ∧ x9.on.ownsRow B' 78 2 u (i + 1) row2 ∧ ∀ k, Row u k → Row v k ∨ wi.heap.size ≤ k := hRR 10 (by decide)
      have q11 : vs 11 = _ := hRR 11 (by decide)
      have q12 : vs 12 = _ := hRR 12 (by decide)
      clear hRR hx
      simp only [putAll, List.take_succ_cons, List.take_zero, List.drop_succ_cons, List.drop_zero, Act.put, List.setIfInBounds_toArray, List.set_cons_zero, List.set_cons_succ, Nat.reduceAdd, Nat.zero_add]
      simp only [q0, q1, q2, q3, q4, q5, q6, q7, q8, q9, q10, q11, q12]
      clear q0 q1 q2 q3 q4 q5 q6 q7 q8 q9 q10 q11 q12 vs
     obtain ⟨ua, uc, hus⟩ := row_slice hO5
     subst hus
     have hsz9 := x9.ext.size
     have hNX : x9.on.ownsRow B' 78 2 (.slice ua (i + 1) uc) (itV (i + 1) (oR6 t)).length ((itV (i + 1) (oR6 t)).flatMap itC) := by rw [HLI.out, ← HRW2.out]; exact hO5
     have HZ9 := hI_ (XZj.out.step x9.ext (fun j hj q => by rcases q with q | q; have q : j = kr := q; omega; have := (HRV.out _ q).1; omega))
     have HGR := hI_ (OPj.out.grown x9.ext (fun k q => (HRV.out k q).1) hR3)
     have HNX9 := hI_ (ownR_ext OPj.out.nx x9.ext (fun k hk q => by rcases q with q | q; have := (own_row OPj.out.nx k hk).1; have q : k = kr := q; omega; exact HRA.out k hk q))
     have HR9 := hI_ hR3; have HN9 := hI_ hNX
     clear hR3 hO5 hk4 hB4 hr5 n1 n2 q4 hNX
     generalize x9.on = w9 at *
     clear x9
     have OP9 : Hid (∀ v' its', w9.ownsRow B' 78 2 v' (its' : Ks).length (its'.flatMap itC) → Bx w9 b (obRow ep ca cc mem v2 (oDone t) v sb rb) 68 → OpW (w9.setCell ⟨b, 4, none⟩ v') B' b sb rb kr (itR (i + 1) (oR6 t)) ep ca cc mem v2 (oNext t) (oDone t) v' its' clZ) := hI_ (fun v' its' h hb => by
      obtain ⟨g1, g2, g3, g4, g5⟩ := HGR.out
      have X1 : Ext (One b) w9 (w9.setCell ⟨b, 4, none⟩ v') := (Ext.refl _ _).set1 _
      have ne := OPj.out.ne; have hB := OPj.out.hB
      exact ⟨hb.set (j := 4) v', g1.ext X1 (fun k o e q => (g5 k o e).2.1 q), fun k o e => by
       obtain ⟨z1, z2, z3, z4, z5, vs, fr, z6⟩ := g5 k o e
       exact ⟨z1, z2, z3, z4, z5, vs, fr, (X1.block k (Array.getElem?_eq_some_iff.1 z6).1 (fun q => z2 q)).trans z6⟩, ownR_ext HNX9.out X1 (fun k hk q => by have := (own_row HNX9.out k hk).1; have q : k = b := q; omega), ownR_ext h X1 (fun k hk q => by have := (own_row h k hk).1; have q : k = b := q; omega), g3.ext X1 (fun q => ne.1 q.symm), g4.ext X1 (fun q => ne.2.1 q.symm), HR9.out.ext X1 (fun q => ne.2.2.1 q.symm), hB, ne⟩)
     have p4 : w9.cell? ⟨b, 4, none⟩ = some v := HGR.out.2.1.cell rfl
     have f4 : w9.frozen? ⟨b, 4, none⟩ = false := froz_of_heap HGR.out.2.1.h
     go_wp2_with fail
     have X1 : Ext (One b) w9 (w9.setCell ⟨b, 4, none⟩ (.slice ua (i + 1) uc)) := (Ext.refl _ _).set1 _
     go_roundg (K - (i + 1))
     case measure => have := HG2.out; omega
     case rel => exact ⟨i + 1, .slice ua (i + 1) uc, ⟨_, HZ9.out.step X1 (fun j hj q => by have q : j = b := q; have := HN4.out; omega)⟩, hlt, rfl, by go_num, rfl, hI_ (OP9.out _ _ HN9.out HGR.out.2.1), by have := X1.size; omega⟩
    ·obtain rfl : i = K := by omega
     have XZ := hI_ z.ext
     have OPn : Hid (OpW z.on B' b sb rb kr (oR7 t) ep ca cc mem v2 (oNext t) (oDone t) v (oItems t) (clV 0 (oR7 t))) := hI_ (by rw [clV_zero, HX2.out.1, HX2.out.2]; exact OPi.out)
     clear OPi
     go_wp2_with fail
     go_loopg [8, 13, 14, 15] 8 (fun n ev iv v14 v15 wr => ∃ (i : Nat) (u : EW Non w), i ≤ 8 ∧ n = 8 - i ∧ ev = .int .i64 (clE i (oR7 t) e0) ∧ iv = .int .i64 ((i + 1 : Nat) : Int) ∧ wr = u.on ∧ Hid (OpW wr B' b sb rb kr (clR i (oR7 t)) ep ca cc mem v2 (oNext t) (oDone t) v (oItems t) (clV i (oR7 t))) ∧ B' ≤ wr.heap.size)
     case atStart => exact ⟨0, z, by omega, rfl, rfl, rfl, rfl, OPn, SZi⟩
     case round =>
      obtain ⟨j, u, hj, hn3, rfl, rfl, rfl, OPi, SZj⟩ := hrel
      have HG3 := hI_ hn3; clear hn3
      clear OPn XZ hlt
      by_cases hlt : j < 8
      ·have XZ := hI_ u.ext
       generalize u.on = wi at *
       clear u
       clear z SZi
       obtain ⟨cn, hcn⟩ : ∃ cn, cn = j + 1 := ⟨_, rfl⟩
       have HCN := hI_ hcn
       rw [← hcn]
       have cb1 : (0 : Int) ≤ (cn : Int) := by omega
       have cb2 : (cn : Int) < 9 := by omega
       have cb3 : decide ((cn : Int) ≤ 8) = true := decide_eq_true (by omega)
       have hwc : IntKind.i64.wrap ((cn : Int) + 1) = ((cn + 1 : Nat) : Int) := (IntWalk.i64_in _ (by omega)).trans (by omega)
       clear hcn
       have q5 : wi.cell? ⟨b, 5, none⟩ = some (.slice (some ⟨sb, 0, none⟩) 9 9) := OPi.out.box.cell rfl
       have n1 : One kr b = False := by simp only [eq_iff_iff, iff_false]; intro q; exact OPi.out.ne.2.2.1 q
       have n2 : Non b = False := rfl
       obtain ⟨num, hnum⟩ : ∃ num, num = numV 4 (clR j (oR7 t)) := ⟨_, rfl⟩
       have CN : Hid (∀ w', RdW w' kr (clR j (oR7 t)) → Calls Tryz.prog 35 #[.pointer (some ⟨kr, 0, none⟩), .int .i64 4] w' fun e w'' => e = .returned (.int .i64 (num : Int)) ∧ Ext (One kr) w' w'' ∧ RdW w'' kr (numR 4 (clR j (oR7 t)))) := hI_ (fun w' h => by rw [hnum]; exact rd_Num kr (clR j (oR7 t)) 4 (by omega) w' h)
       have HNUM := hI_ hnum
       clear hnum
       go_upto_region 21 with fail
       apply wp_region_wr 8 [Mo.is _, Mo.is _, Mo.is _, Mo.is _, Mo.is _, Mo.is _, moSt (.int .i64 (num : Int)) (fun w' => RdW w' kr (numR 4 (clR j (oR7 t)))) (fun _ _ x h => RdW.extN h x), Mo.is _] (One kr) 6 (fun w' => RdW w' kr (clR j (oR7 t))) (Non) 9999 (fun _ => True) (by kernel_rfl) (by kernel_rfl) (by kernel_rfl) (by kernel_rfl) (by kernel_rfl) (by decide) (by kernel_rfl) (by decide) ?ta5 ?tb5 ?ha5 ?hb5 ?hc5 ?hd5 ?ma5 ?mb5 ?st5 ?q5
       case ta5 => exact OPi.out.rd
       case tb5 => exact trivial
       case ha5 => exact fun _ _ x h => RdW.extN h x
       case hb5 => exact fun _ _ x h => RdW.extN h x
       case hc5 => exact fun _ _ _ _ => trivial
       case hd5 => exact fun _ _ _ _ => trivial
       case st5 =>
        refine ⟨?_, ?_, ?_, ?_, ?_, ?_, ?_, ?_, trivial⟩
        ·refine .inl ⟨by decide, by decide, ?_⟩
         intro a' w' hx hs hd
         obtain ⟨y, rfl⟩ := hx.ew
         have e4 : a'.tmps[4]?.getD undef = _ := hs 4 rfl
         simp only [aL, aS, aZ] at e4
         refine .inl ⟨rfl, ?_⟩
         clear hs hd hx
         go_simp
         exact ⟨Ext.refl _ _, rfl⟩
        ·refine .inl ⟨by decide, by decide, ?_⟩
         intro a' w' hx hs hd
         obtain ⟨y, rfl⟩ := hx.ew
         have e84 : a'.tmps[84]?.getD undef = _ := hd 0 84 rfl rfl
         refine .inl ⟨rfl, ?_⟩
         clear hs hd hx
         go_simp
         exact ⟨Ext.refl _ _, rfl⟩
        ·refine .inl ⟨by decide, by decide, ?_⟩
         intro a' w' hx hs hd
         obtain ⟨y, rfl⟩ := hx.ew
         have e85 : a'.tmps[85]?.getD undef = _ := hd 1 85 rfl rfl
         refine .inl ⟨rfl, ?_⟩
         clear hs hd hx
         go_simp
         exact ⟨Ext.refl _ _, rfl⟩
        ·refine .inl ⟨by decide, by decide, ?_⟩
         intro a' w' hx hs hd
         obtain ⟨y, rfl⟩ := hx.ew
         have e86 : a'.tmps[86]?.getD undef = _ := hd 2 86 rfl rfl
         refine .inl ⟨rfl, ?_⟩
         clear hs hd hx
         go_simp
         exact ⟨Ext.refl _ _, rfl⟩
        ·refine .inl ⟨by decide, by decide, ?_⟩
         intro a' w' hx hs hd
         obtain ⟨y, rfl⟩ := hx.ew
         have e13 : a'.tmps[13]?.getD undef = _ := hs 13 rfl
         simp only [aL, aS, aZ] at e13
         refine .inl ⟨rfl, ?_⟩
         clear hs hd hx
         go_simp
         exact ⟨Ext.refl _ _, rfl⟩
        ·refine .inl ⟨by decide, by decide, ?_⟩
         intro a' w' hx hs hd
         obtain ⟨y, rfl⟩ := hx.ew
         have e5 : a'.tmps[5]?.getD undef = _ := hs 5 rfl
         simp only [aL, aS, aZ] at e5
         refine .inl ⟨rfl, ?_⟩
         clear hs hd hx
         go_simp
         exact ⟨Ext.refl _ _, rfl⟩
        ·refine .inr (.inl ⟨rfl, ?_⟩)
         intro a' w' hx hst hs hd
         obtain ⟨y, rfl⟩ := hx.ew
         have e89 : a'.tmps[89]?.getD undef = _ := hd 5 89 rfl rfl
         refine ⟨rfl, ?_⟩
         clear hs hd hx
         go_simp
         exact (CN.out _ hst).mono (fun e w'' ⟨he, hx, hr⟩ => ⟨_, he, hx, rfl, hr⟩)
        ·refine .inl ⟨by decide, by decide, ?_⟩
         intro a' w' hx hs hd
         obtain ⟨y, rfl⟩ := hx.ew
         have e87 : a'.tmps[87]?.getD undef = _ := hd 3 87 rfl rfl
         have e88 : a'.tmps[88]?.getD undef = _ := hd 4 88 rfl rfl
         refine .inl ⟨rfl, ?_⟩
         clear hs hd hx
         go_simp
         exact ⟨Ext.refl _ _, rfl⟩
       case ma5 => exact ⟨.inr (Mo.is_still _ _), .inr (Mo.is_still _ _), .inr (Mo.is_still _ _), .inr (Mo.is_still _ _), .inr (Mo.is_still _ _), .inr (Mo.is_still _ _), .inl rfl, .inr (Mo.is_still _ _), trivial⟩
       case mb5 => exact ⟨.inr (Mo.mono _), .inr (Mo.mono _), .inr (Mo.mono _), .inr (Mo.mono _), .inr (Mo.mono _), .inr (Mo.mono _), .inr (Mo.mono _), .inr (Mo.mono _), trivial⟩
       case' q5 =>
        intro vs w' hx hRR
        obtain ⟨x9, rfl⟩ := hx.ew
        have q0 : vs 0 = _ := hRR 0 (by decide)
        have q1 : vs 1 = _ := hRR 1 (by decide)
        have q2 : vs 2 = _ := hRR 2 (by decide)
        have q3 : vs 3 = _ := hRR 3 (by decide)
        have q4 : vs 4 = _ := hRR 4 (by decide)
        have q5 : vs 5 = _ := hRR 5 (by decide)
        obtain ⟨q6, hR3⟩ : vs 6 = .int .i64 (num : Int) ∧ RdW x9.on kr (numR 4 (clR j (oR7 t))) := hRR 6 (by decide)
        have q7 : vs 7 = _ := hRR 7 (by decide)
        clear hRR hx
        simp only [putAll, List.take_succ_cons, List.take_zero, List.drop_succ_cons, List.drop_zero, Act.put, List.setIfInBounds_toArray, List.set_cons_zero, List.set_cons_succ, Nat.reduceAdd, Nat.zero_add]
        simp only [q0, q1, q2, q3, q4, q5, q6, q7]
        clear q0 q1 q2 q3 q4 q5 q6 q7 vs
       have hsz9 := x9.ext.size
       have OP9 : Hid (OpW x9.on B' b sb rb kr (numR 4 (clR j (oR7 t))) ep ca cc mem v2 (oNext t) (oDone t) v (oItems t) (clV j (oR7 t))) := hI_ (by
        obtain ⟨g1, g2, g3, g4, g5⟩ := OPi.out.grown x9.ext (fun k f => f.elim) hR3
        have l := OPi.out.lowS (j := kr) (.inr (.inr (.inr rfl)))
        exact ⟨g2, g1, g5, ownR_ext OPi.out.nx x9.ext (fun k hk q => by rcases q with q | q; exact l.2.1 k hk q; exact q), ownR_ext OPi.out.it x9.ext (fun k hk q => by rcases q with q | q; exact l.2.2 k hk q; exact q), g3, g4, hR3, OPi.out.hB, OPi.out.ne⟩)
       have XZ9 := hI_ (XZ.out.step x9.ext (fun i hi q => by rcases q with q | q; have q : i = kr := q; omega; exact q.elim))
       clear hR3 n1 n2 q5 OPi XZ
       generalize x9.on = w9 at *
       clear x9
       have q5 : w9.cell? ⟨sb, cn, none⟩ = some (.int .i64 (clV j (oR7 t) j).stamp) := by rw [HCN.out]; exact OP9.out.st.cell (st_get _ hlt)
       have f5 : w9.frozen? ⟨sb, cn, none⟩ = false := froz_of_heap OP9.out.st.h
       have X10 : Ext (One sb) w9 (w9.setCell ⟨sb, cn, none⟩ (.int .i64 (num : Int))) := (Ext.refl _ _).set1 _
       have OP10 : Hid (OpW (w9.setCell ⟨sb, cn, none⟩ (.int .i64 (num : Int))) B' b sb rb kr (numR 4 (clR j (oR7 t))) ep ca cc mem v2 (oNext t) (oDone t) v (oItems t) (setC (clV j (oR7 t)) j ⟨(num : Int), (clV j (oR7 t) j).code, (clV j (oR7 t) j).real⟩)) := hI_ (OP9.out.wr (.inl rfl) X10 (by rw [← st_set _ _ hlt, HCN.out]; exact OP9.out.st.set (j := j + 1) _) (by rw [rs_keep _ _ hlt]; exact OP9.out.rs.ext X10 (fun q => OP9.out.ne.2.2.2.1 q.symm)))
       have XZ10 := hI_ (XZ9.out.step X10 (fun i hi q => by have q : i = sb := q; have := HN4.out; omega))
       have SZ10 : B' ≤ (w9.setCell ⟨sb, cn, none⟩ (.int .i64 (num : Int))).heap.size := by have := X10.size; omega
       clear X10 XZ9 OP9
       obtain ⟨cl1, hcl1⟩ : ∃ cl1, cl1 = setC (clV j (oR7 t)) j ⟨(num : Int), (clV j (oR7 t) j).code, (clV j (oR7 t) j).real⟩ := ⟨_, rfl⟩
       rw [← hcl1] at OP10
       have HCL1 := hI_ hcl1
       clear hcl1
       go_upto_region 22 with fail
       generalize w9.setCell ⟨sb, cn, none⟩ (.int .i64 (num : Int)) = w10 at *
       clear hsz9 q5 f5 w9
       go_wp2_with fail
       refine (rd_Text kr (numR 4 (clR j (oR7 t))) _ OP10.out.rd).mono ?_
       rintro e w11 ⟨rfl, x11, hW11⟩
       have OP11 : Hid (OpW w11 B' b sb rb kr (clR (j + 1) (oR7 t)) ep ca cc mem v2 (oNext t) (oDone t) v (oItems t) cl1) := hI_ (OP10.out.read x11 hW11)
       have XZ11 := hI_ (XZ10.out.step x11 (fun i hi q => by have q : i = kr := q; omega))
       have SZ11 : B' ≤ w11.heap.size := by have := x11.size; omega
       clear x11 hW11 OP10 XZ10 SZ10 w10
       have CRR := hI_ (fun w' : World => ref11_ReadResult (textV (numR 4 (clR j (oR7 t)))) (HLX.out j) w')
       obtain ⟨fe, hfe⟩ : ∃ fe, fe = readXE (textV (numR 4 (clR j (oR7 t)))) := ⟨_, rfl⟩
       rw [← hfe] at CRR
       obtain ⟨ec, hec⟩ : ∃ ec, ec = clE j (oR7 t) e0 := ⟨_, rfl⟩
       have HEC : Hid (clE (j + 1) (oR7 t) e0 = if fe = 0 then ec else 5) := hI_ (by rw [clE_succ, ← hfe, ← hec])
       have HF5 : Hid (fe = 0 ∨ fe = 5) := hI_ (by rw [hfe]; unfold readXE; split; exact .inl rfl; exact .inr rfl)
       rw [← hec]
       clear hfe hec
       obtain ⟨cd, hcd⟩ : ∃ cd, cd = readXcd (textV (numR 4 (clR j (oR7 t)))) := ⟨_, rfl⟩
       obtain ⟨re, hre⟩ : ∃ re, re = readXre (textV (numR 4 (clR j (oR7 t)))) := ⟨_, rfl⟩
       rw [← hcd, ← hre] at CRR
       have HCL2 : Hid (clV (j + 1) (oR7 t) = setC (clV j (oR7 t)) j ⟨(num : Int), cd, re⟩) := hI_ (by rw [clV_succ, HNUM.out, hcd, hre])
       clear hcd hre
       go_wp2_with fail
       refine (CRR.out _).mono ?_
       rintro e w12 ⟨rfl, hx12⟩
       have OP12 := hI_ (OP11.out.extN hx12)
       have XZ12 := hI_ (XZ11.out.trans hx12)
       have SZ12 : B' ≤ w12.heap.size := by have := hx12.size; omega
       clear hx12 OP11 XZ11 SZ11 w11
       go_upto_region 23 with fail
       have OP13 := hI_ (OP12.out.extN ((Ext.refl Non w12).alloc (.cells #[.int .i64 cd, .float .f64 re] 48)))
       have BX13 := hI_ (Bx.newAt w12 [.int .i64 cd, .float .f64 re] 48 _ rfl)
       have XZ13 := hI_ (XZ12.out.alloc (.cells #[.int .i64 cd, .float .f64 re] 48))
       have SZ13 : B' ≤ (w12.alloc (.cells #[.int .i64 cd, .float .f64 re] 48)).heap.size := by simp; omega
       have hkB12 : rb < w12.heap.size := OP12.out.rs.lt
       clear OP12 XZ12 SZ12
       generalize w12.heap.size = kx at *
       generalize w12.alloc (.cells #[.int .i64 cd, .float .f64 re] 48) = w13 at *
       clear w12
       have q6 : w13.cell? ⟨b, 6, none⟩ = some (.slice (some ⟨rb, 0, none⟩) 9 9) := OP13.out.box.cell rfl
       have p0 : w13.cell? ⟨kx, 0, none⟩ = some (.int .i64 cd) := BX13.out.cell rfl
       have p1 : w13.cell? ⟨kx, 1, none⟩ = some (.float .f64 re) := BX13.out.cell rfl
       rcases HF5.out with rfl | rfl
       ·go_upto_region 25 with fail
        apply wp_region_rel_tail 7 (relR [Mo.is _, Mo.is _, Mo.is _, Mo.is _, Mo.is _, Mo.is _, Mo.is _]) (by kernel_rfl) (by kernel_rfl) (by kernel_rfl) (by kernel_rfl) (by kernel_rfl) (by decide) (by kernel_rfl) (relR_mono _) (StepD.all ?st6) ?q6
        case st6 =>
         refine ⟨?_, ?_, ?_, ?_, ?_, ?_, ?_, trivial⟩
         ·intro a' w' hx hs hd
          obtain ⟨y, rfl⟩ := hx.ew
          have e4 : a'.tmps[4]?.getD undef = _ := hs 4 rfl
          simp only [aL, aS, aZ] at e4
          refine .inl ⟨rfl, ?_⟩
          clear hs hd hx
          go_simp
          exact ⟨Ext.refl _ _, rfl⟩
         ·intro a' w' hx hs hd
          obtain ⟨y, rfl⟩ := hx.ew
          have e101 : a'.tmps[101]?.getD undef = _ := hd 0 101 rfl rfl
          refine .inl ⟨rfl, ?_⟩
          clear hs hd hx
          go_simp
          exact ⟨Ext.refl _ _, rfl⟩
         ·intro a' w' hx hs hd
          obtain ⟨y, rfl⟩ := hx.ew
          have e102 : a'.tmps[102]?.getD undef = _ := hd 1 102 rfl rfl
          refine .inl ⟨rfl, ?_⟩
          clear hs hd hx
          go_simp
          exact ⟨Ext.refl _ _, rfl⟩
         ·intro a' w' hx hs hd
          obtain ⟨y, rfl⟩ := hx.ew
          have e103 : a'.tmps[103]?.getD undef = _ := hd 2 103 rfl rfl
          refine .inl ⟨rfl, ?_⟩
          clear hs hd hx
          go_simp
          exact ⟨Ext.refl _ _, rfl⟩
         ·intro a' w' hx hs hd
          obtain ⟨y, rfl⟩ := hx.ew
          have e13 : a'.tmps[13]?.getD undef = _ := hs 13 rfl
          simp only [aL, aS, aZ] at e13
          refine .inl ⟨rfl, ?_⟩
          clear hs hd hx
          go_simp
          exact ⟨Ext.refl _ _, rfl⟩
         ·intro a' w' hx hs hd
          obtain ⟨y, rfl⟩ := hx.ew
          have e14 : a'.tmps[14]?.getD undef = _ := hs 14 rfl
          simp only [aL, aS, aZ] at e14
          refine .inl ⟨rfl, ?_⟩
          clear hs hd hx
          go_simp
          exact ⟨Ext.refl _ _, rfl⟩
         ·intro a' w' hx hs hd
          obtain ⟨y, rfl⟩ := hx.ew
          have e104 : a'.tmps[104]?.getD undef = _ := hd 3 104 rfl rfl
          have e105 : a'.tmps[105]?.getD undef = _ := hd 4 105 rfl rfl
          refine .inl ⟨rfl, ?_⟩
          clear hs hd hx
          go_simp
          exact ⟨Ext.refl _ _, rfl⟩
        case' q6 =>
         intro vs w' hx hRR
         obtain ⟨x14, rfl⟩ := hx.ew
         have q0 : vs 0 = _ := hRR 0 (by decide)
         have q1 : vs 1 = _ := hRR 1 (by decide)
         have q2 : vs 2 = _ := hRR 2 (by decide)
         have q3 : vs 3 = _ := hRR 3 (by decide)
         have q4 : vs 4 = _ := hRR 4 (by decide)
         have q5 : vs 5 = _ := hRR 5 (by decide)
         have q6 : vs 6 = _ := hRR 6 (by decide)
         clear hRR hx
         simp only [putAll, List.take_succ_cons, List.take_zero, List.drop_succ_cons, List.drop_zero, Act.put, List.setIfInBounds_toArray, List.set_cons_zero, List.set_cons_succ, Nat.reduceAdd, Nat.zero_add]
         simp only [q0, q1, q2, q3, q4, q5, q6]
         clear q0 q1 q2 q3 q4 q5 q6 vs
        have OP14 := hI_ (OP13.out.extN x14.ext)
        have XZ14 := hI_ (XZ13.out.trans x14.ext)
        have SZ14 : B' ≤ x14.on.heap.size := by have := x14.ext.size; omega
        clear OP13 XZ13 SZ13 q6 p0 p1 BX13
        generalize x14.on = w14 at *
        clear x14
        obtain ⟨rc0, rc1⟩ := rs_get cl1 hlt
        have r0 : w14.cell? ⟨rb, cn * 2, none⟩ = some (.int .i64 (cl1 j).code) := by rw [HCN.out]; exact OP14.out.rs.cell rc0
        have r1 : w14.cell? ⟨rb, cn * 2 + 1, none⟩ = some (.float .f64 (cl1 j).real) := by rw [HCN.out]; exact OP14.out.rs.cell rc1
        have f0 : w14.frozen? ⟨rb, cn * 2, none⟩ = false := froz_of_heap OP14.out.rs.h
        have f1 : w14.frozen? ⟨rb, cn * 2 + 1, none⟩ = false := froz_of_heap OP14.out.rs.h
        clear rc0 rc1
        have X15 : Ext (One rb) w14 ((w14.setCell ⟨rb, cn * 2, none⟩ (.int .i64 cd)).setCell ⟨rb, cn * 2 + 1, none⟩ (.float .f64 re)) := ((Ext.refl _ _).set1 _).set1 _
        have OP15 : Hid (OpW ((w14.setCell ⟨rb, cn * 2, none⟩ (.int .i64 cd)).setCell ⟨rb, cn * 2 + 1, none⟩ (.float .f64 re)) B' b sb rb kr (clR (j + 1) (oR7 t)) ep ca cc mem v2 (oNext t) (oDone t) v (oItems t) (clV (j + 1) (oR7 t))) := hI_ (by
         have e1 : clV (j + 1) (oR7 t) = setC cl1 j ⟨(num : Int), cd, re⟩ := by rw [HCL2.out, HCL1.out, setC_setC]
         refine OP14.out.wr (.inr rfl) X15 ?_ ?_
         ·have h := OP14.out.st.ext X15 (fun q => OP14.out.ne.2.2.2.1 q)
          rw [HCL2.out, st_keep _ _ cd (clV j (oR7 t) j).code re (clV j (oR7 t) j).real hlt, ← HCL1.out]; exact h
         ·rw [e1, ← rs_set cl1 _ hlt, ← HCN.out]
          exact (OP14.out.rs.set (j := cn * 2) _).set (j := cn * 2 + 1) _)
        have XZ15 := hI_ (XZ14.out.step X15 (fun i hi q => by have q : i = rb := q; have := HN4.out; omega))
        have SZ15 : B' ≤ ((w14.setCell ⟨rb, cn * 2, none⟩ (.int .i64 cd)).setCell ⟨rb, cn * 2 + 1, none⟩ (.float .f64 re)).heap.size := by have := X15.size; omega
        clear X15 OP14 XZ14 SZ14
        go_wp2_with fail
        go_roundg (8 - (j + 1))
        case measure => have := HG3.out; omega
        case rel => exact ⟨j + 1, ⟨_, XZ15.out⟩, by omega, rfl, by rw [HEC.out]; simp, by rw [HCN.out]; go_num, rfl, OP15, SZ15⟩
       ·go_upto_region 25 with fail
        apply wp_region_rel_tail 7 (relR [Mo.is _, Mo.is _, Mo.is _, Mo.is _, Mo.is _, Mo.is _, Mo.is _]) (by kernel_rfl) (by kernel_rfl) (by kernel_rfl) (by kernel_rfl) (by kernel_rfl) (by decide) (by kernel_rfl) (relR_mono _) (StepD.all ?st7) ?q7
        case st7 =>
         refine ⟨?_, ?_, ?_, ?_, ?_, ?_, ?_, trivial⟩
         ·intro a' w' hx hs hd
          obtain ⟨y, rfl⟩ := hx.ew
          have e4 : a'.tmps[4]?.getD undef = _ := hs 4 rfl
          simp only [aL, aS, aZ] at e4
          refine .inl ⟨rfl, ?_⟩
          clear hs hd hx
          go_simp
          exact ⟨Ext.refl _ _, rfl⟩
         ·intro a' w' hx hs hd
          obtain ⟨y, rfl⟩ := hx.ew
          have e101 : a'.tmps[101]?.getD undef = _ := hd 0 101 rfl rfl
          refine .inl ⟨rfl, ?_⟩
          clear hs hd hx
          go_simp
          exact ⟨Ext.refl _ _, rfl⟩
         ·intro a' w' hx hs hd
          obtain ⟨y, rfl⟩ := hx.ew
          have e102 : a'.tmps[102]?.getD undef = _ := hd 1 102 rfl rfl
          refine .inl ⟨rfl, ?_⟩
          clear hs hd hx
          go_simp
          exact ⟨Ext.refl _ _, rfl⟩
         ·intro a' w' hx hs hd
          obtain ⟨y, rfl⟩ := hx.ew
          have e103 : a'.tmps[103]?.getD undef = _ := hd 2 103 rfl rfl
          refine .inl ⟨rfl, ?_⟩
          clear hs hd hx
          go_simp
          exact ⟨Ext.refl _ _, rfl⟩
         ·intro a' w' hx hs hd
          obtain ⟨y, rfl⟩ := hx.ew
          have e13 : a'.tmps[13]?.getD undef = _ := hs 13 rfl
          simp only [aL, aS, aZ] at e13
          refine .inl ⟨rfl, ?_⟩
          clear hs hd hx
          go_simp
          exact ⟨Ext.refl _ _, rfl⟩
         ·intro a' w' hx hs hd
          obtain ⟨y, rfl⟩ := hx.ew
          have e14 : a'.tmps[14]?.getD undef = _ := hs 14 rfl
          simp only [aL, aS, aZ] at e14
          refine .inl ⟨rfl, ?_⟩
          clear hs hd hx
          go_simp
          exact ⟨Ext.refl _ _, rfl⟩
         ·intro a' w' hx hs hd
          obtain ⟨y, rfl⟩ := hx.ew
          have e104 : a'.tmps[104]?.getD undef = _ := hd 3 104 rfl rfl
          have e105 : a'.tmps[105]?.getD undef = _ := hd 4 105 rfl rfl
          refine .inl ⟨rfl, ?_⟩
          clear hs hd hx
          go_simp
          exact ⟨Ext.refl _ _, rfl⟩
        case' q7 =>
         intro vs w' hx hRR
         obtain ⟨x14, rfl⟩ := hx.ew
         have q0 : vs 0 = _ := hRR 0 (by decide)
         have q1 : vs 1 = _ := hRR 1 (by decide)
         have q2 : vs 2 = _ := hRR 2 (by decide)
         have q3 : vs 3 = _ := hRR 3 (by decide)
         have q4 : vs 4 = _ := hRR 4 (by decide)
         have q5 : vs 5 = _ := hRR 5 (by decide)
         have q6 : vs 6 = _ := hRR 6 (by decide)
         clear hRR hx
         simp only [putAll, List.take_succ_cons, List.take_zero, List.drop_succ_cons, List.drop_zero, Act.put, List.setIfInBounds_toArray, List.set_cons_zero, List.set_cons_succ, Nat.reduceAdd, Nat.zero_add]
         simp only [q0, q1, q2, q3, q4, q5, q6]
         clear q0 q1 q2 q3 q4 q5 q6 vs
        have OP14 := hI_ (OP13.out.extN x14.ext)
        have XZ14 := hI_ (XZ13.out.trans x14.ext)
        have SZ14 : B' ≤ x14.on.heap.size := by have := x14.ext.size; omega
        clear OP13 XZ13 SZ13 q6 p0 p1 BX13
        generalize x14.on = w14 at *
        clear x14
        obtain ⟨rc0, rc1⟩ := rs_get cl1 hlt
        have r0 : w14.cell? ⟨rb, cn * 2, none⟩ = some (.int .i64 (cl1 j).code) := by rw [HCN.out]; exact OP14.out.rs.cell rc0
        have r1 : w14.cell? ⟨rb, cn * 2 + 1, none⟩ = some (.float .f64 (cl1 j).real) := by rw [HCN.out]; exact OP14.out.rs.cell rc1
        have f0 : w14.frozen? ⟨rb, cn * 2, none⟩ = false := froz_of_heap OP14.out.rs.h
        have f1 : w14.frozen? ⟨rb, cn * 2 + 1, none⟩ = false := froz_of_heap OP14.out.rs.h
        clear rc0 rc1
        have X15 : Ext (One rb) w14 ((w14.setCell ⟨rb, cn * 2, none⟩ (.int .i64 cd)).setCell ⟨rb, cn * 2 + 1, none⟩ (.float .f64 re)) := ((Ext.refl _ _).set1 _).set1 _
        have OP15 : Hid (OpW ((w14.setCell ⟨rb, cn * 2, none⟩ (.int .i64 cd)).setCell ⟨rb, cn * 2 + 1, none⟩ (.float .f64 re)) B' b sb rb kr (clR (j + 1) (oR7 t)) ep ca cc mem v2 (oNext t) (oDone t) v (oItems t) (clV (j + 1) (oR7 t))) := hI_ (by
         have e1 : clV (j + 1) (oR7 t) = setC cl1 j ⟨(num : Int), cd, re⟩ := by rw [HCL2.out, HCL1.out, setC_setC]
         refine OP14.out.wr (.inr rfl) X15 ?_ ?_
         ·have h := OP14.out.st.ext X15 (fun q => OP14.out.ne.2.2.2.1 q)
          rw [HCL2.out, st_keep _ _ cd (clV j (oR7 t) j).code re (clV j (oR7 t) j).real hlt, ← HCL1.out]; exact h
         ·rw [e1, ← rs_set cl1 _ hlt, ← HCN.out]
          exact (OP14.out.rs.set (j := cn * 2) _).set (j := cn * 2 + 1) _)
        have XZ15 := hI_ (XZ14.out.step X15 (fun i hi q => by have q : i = rb := q; have := HN4.out; omega))
        have SZ15 : B' ≤ ((w14.setCell ⟨rb, cn * 2, none⟩ (.int .i64 cd)).setCell ⟨rb, cn * 2 + 1, none⟩ (.float .f64 re)).heap.size := by have := X15.size; omega
        clear X15 OP14 XZ14 SZ14
        go_wp2_with fail
        go_roundg (8 - (j + 1))
        case measure => have := HG3.out; omega
        case rel => exact ⟨j + 1, ⟨_, XZ15.out⟩, by omega, rfl, by rw [HEC.out]; simp, by rw [HCN.out]; go_num, rfl, OP15, SZ15⟩
      ·obtain rfl : j = 8 := by omega
       have XZ := hI_ u.ext
       generalize u.on = we at *
       clear u
       have HRL : Hid (RLo we b sb rb (openG t)) := hI_ (by
        have h := OPi.out.rlo HNL.out
        rw [HEP.out, HMEM.out] at h
        exact h)
       have EN := hI_ (rd_End kr (oR8 t) we OPi.out.rd)
       have MY := hI_ (ref12_may_any b sb rb (openG t) we HRL.out)
       generalize clE 8 (oR7 t) e0 = e8 at *
       generalize endE (oR8 t) = en at *
       generalize hmy : mayB (openG t) = my at *
       have HMY := hI_ hmy
       clear OPi z SZi SZj hmy
       have cb3 : decide (((8 + 1 : Nat) : Int) ≤ 8) = false := by decide
       by_cases h1 : hd = 76
       case neg =>
        have h1' : ((hd : Int) != 76) = true := by simp; omega
        have HF : Hid (openB t = false) := hI_ (by rw [OB.out, decide_eq_false h1]; simp)
        go_wp2
        go_returns
        exact ⟨XZ.out, .inr ⟨rfl, HF.out⟩⟩
       have h1' : ((hd : Int) != 76) = false := by simp; omega
       by_cases h2 : e8 = 0
       case neg =>
        have h2' : (e8 != 0) = true := by simpa using h2
        have HF : Hid (openB t = false) := hI_ (by rw [OB.out, decide_eq_false h2]; simp)
        clear h1
        go_wp2
        go_returns
        exact ⟨XZ.out, .inr ⟨rfl, HF.out⟩⟩
       have h2' : (e8 != 0) = false := by simpa using h2
       by_cases h3 : en = 0
       case neg =>
        have h3' : (en != 0) = true := by simpa using h3
        have HF : Hid (openB t = false) := hI_ (by rw [OB.out, decide_eq_false h3]; simp)
        clear h1 h2
        go_wp2_with fail
        refine EN.out.mono ?_
        rintro e _ ⟨rfl, rfl⟩
        go_wp2
        go_returns
        exact ⟨XZ.out, .inr ⟨rfl, HF.out⟩⟩
       have h3' : (en != 0) = false := by simpa using h3
       have OB2 : Hid (openB t = my) := hI_ (by rw [OB.out, decide_eq_true h1, decide_eq_true h2, decide_eq_true h3]; rfl)
       clear h1 h2 h3 OB
       cases my
       ·go_wp2_with fail
        refine EN.out.mono ?_
        rintro e _ ⟨rfl, rfl⟩
        go_wp2_with fail
        refine MY.out.mono ?_
        rintro e w9 ⟨rfl, hx9⟩
        go_wp2
        go_returns
        exact ⟨XZ.out.trans hx9, .inr ⟨rfl, OB2.out⟩⟩
       ·go_wp2_with fail
        refine EN.out.mono ?_
        rintro e _ ⟨rfl, rfl⟩
        go_wp2_with fail
        refine MY.out.mono ?_
        rintro e w9 ⟨rfl, hx9⟩
        go_wp2
        go_returns
        exact ⟨XZ.out.trans hx9, .inl ⟨b, sb, rb, rfl, HRL.out.extN hx9, OB2.out, HN4.out⟩⟩
end Go.Proofs.YtfefeepljbfcdaaGreat
