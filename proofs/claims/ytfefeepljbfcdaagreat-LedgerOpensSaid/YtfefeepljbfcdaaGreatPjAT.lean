/- Joined texts: Ledg4, Ledg5, Ledg6. What each proves stands at its head; no conditions beside those in its theorems. -/
import Derived.Test.YtfefeepljbfcdaaGreatPjAS
/- Contracts of layer 12 (ledger): apply, of what has a key. Printed by wip/genapply.py. -/
namespace Go.Proofs.YtfefeepljbfcdaaGreat
open Go.RowKit F64
set_option linter.unusedSimpArgs false
set_option linter.unusedVariables false
attribute [local go_sem] run_store_float
theorem LD.setMap {w w' : World} {b m : Nat} {g : Lg} {ks : Ks} (h : LD w b m g) (x : Ext (One m) w w') (hm : MapW w' m ks) : LD w' b m (setKeys g ks) := by
 have ns : NoInts (One m) w := fun k s => h.noInts k (.inr s)
 have hb := h.lt
 have hne := h.ne
 obtain ⟨a1, c1, a2, c2, r, i1, i2, f1, f2⟩ := h.ex
 exact ⟨⟨a1, c1, a2, c2, (x.block b hb (fun s => hne s)).trans r, i1.extT f1 x ns, i2.extT f2 x ns, f1.ext x ns, f2.ext x ns⟩, hm⟩
set_option maxHeartbeats 1000000 in
set_option maxRecDepth 100000 in
theorem apply_get (b m : Nat) (g : Lg) (key : ByteArray) (x : Nat) (id : Int) (w : World) (h : LD w b m g) (hk : hasK g.keys key = true) : Calls Tryz.prog 55 #[.pointer (some ⟨b, 0, none⟩), .agg #[.int .i64 5, .string key, .float .f64 x, .int .i64 id]] w fun e w' =>
  e = .returned (.agg #[.int .i64 0, .float .f64 (valK g.keys key)]) ∧ Ext (Two b m) w w' ∧ LD w' b m (setKeys g (setK g.keys key (valK g.keys key))) := by
 obtain ⟨a1, c1, a2, c2, r, i1, i2, f1, f2⟩ := h.ex
 have q4 : w.cell? ⟨b, 4, none⟩ = some (.map (some m)) := cell_of_heap r rfl
 have hlt := h.lt
 have hml := h.mp.lt
 have HH := hI_ h
 clear r i1 i2 f1 f2
 have AP := hI_ (ApW.of (w := w) (b := b) (k := 5) (key := key) (x := x) (id := id))
 have A1 : Ext Non w ((w.alloc (.cells #[.int .i64 5, .string key, .float .f64 x, .int .i64 id] 52)).alloc (.cells #[.int .i64 0, .float .f64 0] 48)) := ((Ext.refl _ _).alloc _).alloc _
 have hl : ∀ w', Ext Non w w' → (Instr.lookup 59 (.map (some m)) (.string key) true).run Tryz.prog w' = .ok (.tuple #[.float .f64 (valK g.keys key), .bool true]) w' := by
  intro w' y
  have := (h.mp.ext y (fun f => f)).lookup Tryz.underlying59 Tryz.underlying9 (zeroF w') key
  rw [hk] at this
  exact this
 have hl1 := hl _ (A1.drew)
 clear h hl hk
 generalize valK g.keys key = v at *
 go_enter Tryz.func55, Tryz.ntmps55
 go_wp2_with fail
 go_region
 go_wp2_with fail
 have A3 := A1.drew.drew
 obtain ⟨w5, hu, hM, hX⟩ := (HH.out.mp.ext A3 (fun f => f)).update Tryz.underlying59 Tryz.underlying9 key v
 have P5 := AP.out.ext (S := One m) ((((Ext.refl (One m) _).drew.drew)).trans hX) (fun s => by have s : w.heap.size = m := s; omega) (fun s => by have s : w.heap.size + 1 = m := s; omega)
 have L5 := hI_ ((HH.out.extN A3).setMap hX hM)
 have Y5 : Ext (Two b m) w w5 := (A3.ofNon (S := Two b m)).step hX (fun k _ s => .inr s)
 have p1 : w5.cell? ⟨w.heap.size + 1, 0, none⟩ = some (.int .i64 0) := cell_of_heap (cur := [.int .i64 0, .float .f64 0]) P5.r rfl
 have p2 : w5.cell? ⟨w.heap.size + 1, 1, none⟩ = some (.float .f64 0) := cell_of_heap (cur := [.int .i64 0, .float .f64 0]) P5.r rfl
 have p3 : w5.frozen? ⟨w.heap.size + 1, 0, none⟩ = false := froz_of_heap (cur := [.int .i64 0, .float .f64 0]) P5.r
 have p4 : w5.frozen? ⟨w.heap.size + 1, 1, none⟩ = false := froz_of_heap (cur := [.int .i64 0, .float .f64 0]) P5.r
 go_region
 obtain ⟨y00, y0, y1⟩ := res2 (v0 := .int .i64 0) (v1 := .float .f64 v) p1 p2
 go_wp2
 refine bodyPost_ret (by simp [results, Tryz.results55, go_sem, y00, y0, y1]; try rfl) rfl ?_
 obtain ⟨E1, E2⟩ := ap_end (.int .i64 0) (.float .f64 v) P5 Y5 hlt hml L5.out
 exact ⟨rfl, E1, E2⟩
set_option maxHeartbeats 1000000 in
set_option maxRecDepth 100000 in
theorem apply_put (b m : Nat) (g : Lg) (key : ByteArray) (x : Nat) (id : Int) (w : World) (h : LD w b m g) (hk : hasK g.keys key = true) : Calls Tryz.prog 55 #[.pointer (some ⟨b, 0, none⟩), .agg #[.int .i64 1, .string key, .float .f64 x, .int .i64 id]] w fun e w' =>
  e = .returned (.agg #[.int .i64 0, .float .f64 (canonN x)]) ∧ Ext (Two b m) w w' ∧ LD w' b m (setKeys g (setK g.keys key (canonN x))) := by
 obtain ⟨a1, c1, a2, c2, r, i1, i2, f1, f2⟩ := h.ex
 have q4 : w.cell? ⟨b, 4, none⟩ = some (.map (some m)) := cell_of_heap r rfl
 have hlt := h.lt
 have hml := h.mp.lt
 have HH := hI_ h
 clear r i1 i2 f1 f2
 have AP := hI_ (ApW.of (w := w) (b := b) (k := 1) (key := key) (x := x) (id := id))
 have A1 : Ext Non w ((w.alloc (.cells #[.int .i64 1, .string key, .float .f64 x, .int .i64 id] 52)).alloc (.cells #[.int .i64 0, .float .f64 0] 48)) := ((Ext.refl _ _).alloc _).alloc _
 have hl : ∀ w', Ext Non w w' → (Instr.lookup 59 (.map (some m)) (.string key) true).run Tryz.prog w' = .ok (.tuple #[.float .f64 (valK g.keys key), .bool true]) w' := by
  intro w' y
  have := (h.mp.ext y (fun f => f)).lookup Tryz.underlying59 Tryz.underlying9 (zeroF w') key
  rw [hk] at this
  exact this
 have hl1 := hl _ (A1.drew)
 clear h hl hk
 generalize valK g.keys key = v at *
 go_enter Tryz.func55, Tryz.ntmps55
 go_wp2_with fail
 go_region
 go_wp2_with (go_at_call 87; refine (reals_Canon _ _).mono ?_; rintro e w' ⟨rfl, rfl⟩)
 have A3 := A1.drew.drew
 obtain ⟨w5, hu, hM, hX⟩ := (HH.out.mp.ext A3 (fun f => f)).update Tryz.underlying59 Tryz.underlying9 key (canonN x)
 have P5 := AP.out.ext (S := One m) ((((Ext.refl (One m) _).drew.drew)).trans hX) (fun s => by have s : w.heap.size = m := s; omega) (fun s => by have s : w.heap.size + 1 = m := s; omega)
 have L5 := hI_ ((HH.out.extN A3).setMap hX hM)
 have Y5 : Ext (Two b m) w w5 := (A3.ofNon (S := Two b m)).step hX (fun k _ s => .inr s)
 have p1 : w5.cell? ⟨w.heap.size + 1, 0, none⟩ = some (.int .i64 0) := cell_of_heap (cur := [.int .i64 0, .float .f64 0]) P5.r rfl
 have p2 : w5.cell? ⟨w.heap.size + 1, 1, none⟩ = some (.float .f64 0) := cell_of_heap (cur := [.int .i64 0, .float .f64 0]) P5.r rfl
 have p3 : w5.frozen? ⟨w.heap.size + 1, 0, none⟩ = false := froz_of_heap (cur := [.int .i64 0, .float .f64 0]) P5.r
 have p4 : w5.frozen? ⟨w.heap.size + 1, 1, none⟩ = false := froz_of_heap (cur := [.int .i64 0, .float .f64 0]) P5.r
 go_region
 obtain ⟨y00, y0, y1⟩ := res2 (v0 := .int .i64 0) (v1 := .float .f64 (canonN x)) p1 p2
 go_wp2
 refine bodyPost_ret (by simp [results, Tryz.results55, go_sem, y00, y0, y1]; try rfl) rfl ?_
 obtain ⟨E1, E2⟩ := ap_end (.int .i64 0) (.float .f64 (canonN x)) P5 Y5 hlt hml L5.out
 exact ⟨rfl, E1, E2⟩
set_option maxHeartbeats 1000000 in
set_option maxRecDepth 100000 in
theorem apply_add (b m : Nat) (g : Lg) (key : ByteArray) (x : Nat) (id : Int) (w : World) (h : LD w b m g) (hk : hasK g.keys key = true) : Calls Tryz.prog 55 #[.pointer (some ⟨b, 0, none⟩), .agg #[.int .i64 2, .string key, .float .f64 x, .int .i64 id]] w fun e w' =>
  e = .returned (.agg #[.int .i64 0, .float .f64 (addN (valK g.keys key) x)]) ∧ Ext (Two b m) w w' ∧ LD w' b m (setKeys g (setK g.keys key (addN (valK g.keys key) x))) := by
 obtain ⟨a1, c1, a2, c2, r, i1, i2, f1, f2⟩ := h.ex
 have q4 : w.cell? ⟨b, 4, none⟩ = some (.map (some m)) := cell_of_heap r rfl
 have hlt := h.lt
 have hml := h.mp.lt
 have HH := hI_ h
 clear r i1 i2 f1 f2
 have AP := hI_ (ApW.of (w := w) (b := b) (k := 2) (key := key) (x := x) (id := id))
 have A1 : Ext Non w ((w.alloc (.cells #[.int .i64 2, .string key, .float .f64 x, .int .i64 id] 52)).alloc (.cells #[.int .i64 0, .float .f64 0] 48)) := ((Ext.refl _ _).alloc _).alloc _
 have hl : ∀ w', Ext Non w w' → (Instr.lookup 59 (.map (some m)) (.string key) true).run Tryz.prog w' = .ok (.tuple #[.float .f64 (valK g.keys key), .bool true]) w' := by
  intro w' y
  have := (h.mp.ext y (fun f => f)).lookup Tryz.underlying59 Tryz.underlying9 (zeroF w') key
  rw [hk] at this
  exact this
 have hl1 := hl _ (A1.drew)
 clear h hl hk
 generalize valK g.keys key = v at *
 go_enter Tryz.func55, Tryz.ntmps55
 go_wp2_with fail
 go_region
 go_wp2_with (go_at_call 93; refine (reals_Add _ _ _).mono ?_; rintro e w6 ⟨rfl, n, rfl⟩)
 have A3 := A1.drewN (1 + n + 1)
 obtain ⟨w5, hu, hM, hX⟩ := (HH.out.mp.ext A3 (fun f => f)).update Tryz.underlying59 Tryz.underlying9 key (addN v x)
 have P5 := AP.out.ext (S := One m) ((((Ext.refl (One m) _).drewN (1 + n + 1))).trans hX) (fun s => by have s : w.heap.size = m := s; omega) (fun s => by have s : w.heap.size + 1 = m := s; omega)
 have L5 := hI_ ((HH.out.extN A3).setMap hX hM)
 have Y5 : Ext (Two b m) w w5 := (A3.ofNon (S := Two b m)).step hX (fun k _ s => .inr s)
 have p1 : w5.cell? ⟨w.heap.size + 1, 0, none⟩ = some (.int .i64 0) := cell_of_heap (cur := [.int .i64 0, .float .f64 0]) P5.r rfl
 have p2 : w5.cell? ⟨w.heap.size + 1, 1, none⟩ = some (.float .f64 0) := cell_of_heap (cur := [.int .i64 0, .float .f64 0]) P5.r rfl
 have p3 : w5.frozen? ⟨w.heap.size + 1, 0, none⟩ = false := froz_of_heap (cur := [.int .i64 0, .float .f64 0]) P5.r
 have p4 : w5.frozen? ⟨w.heap.size + 1, 1, none⟩ = false := froz_of_heap (cur := [.int .i64 0, .float .f64 0]) P5.r
 go_region
 obtain ⟨y00, y0, y1⟩ := res2 (v0 := .int .i64 0) (v1 := .float .f64 (addN v x)) p1 p2
 go_wp2
 refine bodyPost_ret (by simp [results, Tryz.results55, go_sem, y00, y0, y1]; try rfl) rfl ?_
 obtain ⟨E1, E2⟩ := ap_end (.int .i64 0) (.float .f64 (addN v x)) P5 Y5 hlt hml L5.out
 exact ⟨rfl, E1, E2⟩
set_option maxHeartbeats 1000000 in
set_option maxRecDepth 100000 in
theorem apply_max (b m : Nat) (g : Lg) (key : ByteArray) (x : Nat) (id : Int) (w : World) (h : LD w b m g) (hk : hasK g.keys key = true) (hv : (valK g.keys key) < 18446744073709551616) (hx : x < 18446744073709551616) : Calls Tryz.prog 55 #[.pointer (some ⟨b, 0, none⟩), .agg #[.int .i64 3, .string key, .float .f64 x, .int .i64 id]] w fun e w' =>
  e = .returned (.agg #[.int .i64 0, .float .f64 (mostN (valK g.keys key) x)]) ∧ Ext (Two b m) w w' ∧ LD w' b m (setKeys g (setK g.keys key (mostN (valK g.keys key) x))) := by
 obtain ⟨a1, c1, a2, c2, r, i1, i2, f1, f2⟩ := h.ex
 have q4 : w.cell? ⟨b, 4, none⟩ = some (.map (some m)) := cell_of_heap r rfl
 have hlt := h.lt
 have hml := h.mp.lt
 have HH := hI_ h
 clear r i1 i2 f1 f2
 have AP := hI_ (ApW.of (w := w) (b := b) (k := 3) (key := key) (x := x) (id := id))
 have A1 : Ext Non w ((w.alloc (.cells #[.int .i64 3, .string key, .float .f64 x, .int .i64 id] 52)).alloc (.cells #[.int .i64 0, .float .f64 0] 48)) := ((Ext.refl _ _).alloc _).alloc _
 have hl : ∀ w', Ext Non w w' → (Instr.lookup 59 (.map (some m)) (.string key) true).run Tryz.prog w' = .ok (.tuple #[.float .f64 (valK g.keys key), .bool true]) w' := by
  intro w' y
  have := (h.mp.ext y (fun f => f)).lookup Tryz.underlying59 Tryz.underlying9 (zeroF w') key
  rw [hk] at this
  exact this
 have hl1 := hl _ (A1.drew)
 clear h hl hk
 generalize valK g.keys key = v at *
 go_enter Tryz.func55, Tryz.ntmps55
 go_wp2_with fail
 go_region
 go_wp2_with (go_at_call 94; refine (reals_Most _ _ hv hx _).mono ?_; rintro e w' ⟨rfl, rfl⟩)
 have A3 := A1.drew.drew
 obtain ⟨w5, hu, hM, hX⟩ := (HH.out.mp.ext A3 (fun f => f)).update Tryz.underlying59 Tryz.underlying9 key (mostN v x)
 have P5 := AP.out.ext (S := One m) ((((Ext.refl (One m) _).drew.drew)).trans hX) (fun s => by have s : w.heap.size = m := s; omega) (fun s => by have s : w.heap.size + 1 = m := s; omega)
 have L5 := hI_ ((HH.out.extN A3).setMap hX hM)
 have Y5 : Ext (Two b m) w w5 := (A3.ofNon (S := Two b m)).step hX (fun k _ s => .inr s)
 have p1 : w5.cell? ⟨w.heap.size + 1, 0, none⟩ = some (.int .i64 0) := cell_of_heap (cur := [.int .i64 0, .float .f64 0]) P5.r rfl
 have p2 : w5.cell? ⟨w.heap.size + 1, 1, none⟩ = some (.float .f64 0) := cell_of_heap (cur := [.int .i64 0, .float .f64 0]) P5.r rfl
 have p3 : w5.frozen? ⟨w.heap.size + 1, 0, none⟩ = false := froz_of_heap (cur := [.int .i64 0, .float .f64 0]) P5.r
 have p4 : w5.frozen? ⟨w.heap.size + 1, 1, none⟩ = false := froz_of_heap (cur := [.int .i64 0, .float .f64 0]) P5.r
 go_region
 obtain ⟨y00, y0, y1⟩ := res2 (v0 := .int .i64 0) (v1 := .float .f64 (mostN v x)) p1 p2
 go_wp2
 refine bodyPost_ret (by simp [results, Tryz.results55, go_sem, y00, y0, y1]; try rfl) rfl ?_
 obtain ⟨E1, E2⟩ := ap_end (.int .i64 0) (.float .f64 (mostN v x)) P5 Y5 hlt hml L5.out
 exact ⟨rfl, E1, E2⟩
set_option maxHeartbeats 1000000 in
set_option maxRecDepth 100000 in
theorem apply_new (b m : Nat) (g : Lg) (key : ByteArray) (x : Nat) (id : Int) (w : World) (h : LD w b m g) (hk : hasK g.keys key = false) (hn : g.keys.length ≠ 16) : Calls Tryz.prog 55 #[.pointer (some ⟨b, 0, none⟩), .agg #[.int .i64 1, .string key, .float .f64 x, .int .i64 id]] w fun e w' =>
  e = .returned (.agg #[.int .i64 0, .float .f64 (canonN x)]) ∧ Ext (Two b m) w w' ∧ LD w' b m (setKeys g (setK g.keys key (canonN x))) := by
 obtain ⟨a1, c1, a2, c2, r, i1, i2, f1, f2⟩ := h.ex
 have q4 : w.cell? ⟨b, 4, none⟩ = some (.map (some m)) := cell_of_heap r rfl
 have hlt := h.lt
 have hml := h.mp.lt
 have HH := hI_ h
 clear r i1 i2 f1 f2
 have AP := hI_ (ApW.of (w := w) (b := b) (k := 1) (key := key) (x := x) (id := id))
 have A1 : Ext Non w ((w.alloc (.cells #[.int .i64 1, .string key, .float .f64 x, .int .i64 id] 52)).alloc (.cells #[.int .i64 0, .float .f64 0] 48)) := ((Ext.refl _ _).alloc _).alloc _
 have hl : ∀ w', Ext Non w w' → (Instr.lookup 59 (.map (some m)) (.string key) true).run Tryz.prog w' = .ok (.tuple #[.float .f64 (valK g.keys key), .bool false]) w' := by
  intro w' y
  have := (h.mp.ext y (fun f => f)).lookup Tryz.underlying59 Tryz.underlying9 (zeroF w') key
  rw [hk] at this
  exact this
 have hl1 := hl _ (A1.drew)
 have hlen := (h.mp.ext A1.drew (fun f => f)).len Tryz.underlying59 3
 have ht : ((g.keys.length : Int) == 16) = false := by rw [beq_eq_false_iff_ne]; omega
 clear h hl hk
 generalize valK g.keys key = v at *
 go_enter Tryz.func55, Tryz.ntmps55
 go_wp2_with fail
 go_region
 go_wp2_with (go_at_call 87; refine (reals_Canon _ _).mono ?_; rintro e w' ⟨rfl, rfl⟩)
 have A3 := A1.drew.drew
 obtain ⟨w5, hu, hM, hX⟩ := (HH.out.mp.ext A3 (fun f => f)).update Tryz.underlying59 Tryz.underlying9 key (canonN x)
 have P5 := AP.out.ext (S := One m) ((((Ext.refl (One m) _).drew.drew)).trans hX) (fun s => by have s : w.heap.size = m := s; omega) (fun s => by have s : w.heap.size + 1 = m := s; omega)
 have L5 := hI_ ((HH.out.extN A3).setMap hX hM)
 have Y5 : Ext (Two b m) w w5 := (A3.ofNon (S := Two b m)).step hX (fun k _ s => .inr s)
 have p1 : w5.cell? ⟨w.heap.size + 1, 0, none⟩ = some (.int .i64 0) := cell_of_heap (cur := [.int .i64 0, .float .f64 0]) P5.r rfl
 have p2 : w5.cell? ⟨w.heap.size + 1, 1, none⟩ = some (.float .f64 0) := cell_of_heap (cur := [.int .i64 0, .float .f64 0]) P5.r rfl
 have p3 : w5.frozen? ⟨w.heap.size + 1, 0, none⟩ = false := froz_of_heap (cur := [.int .i64 0, .float .f64 0]) P5.r
 have p4 : w5.frozen? ⟨w.heap.size + 1, 1, none⟩ = false := froz_of_heap (cur := [.int .i64 0, .float .f64 0]) P5.r
 go_region
 obtain ⟨y00, y0, y1⟩ := res2 (v0 := .int .i64 0) (v1 := .float .f64 (canonN x)) p1 p2
 go_wp2
 refine bodyPost_ret (by simp [results, Tryz.results55, go_sem, y00, y0, y1]; try rfl) rfl ?_
 obtain ⟨E1, E2⟩ := ap_end (.int .i64 0) (.float .f64 (canonN x)) P5 Y5 hlt hml L5.out
 exact ⟨rfl, E1, E2⟩
set_option maxHeartbeats 1000000 in
set_option maxRecDepth 100000 in
theorem apply_cut (b m : Nat) (g : Lg) (key : ByteArray) (x : Nat) (id : Int) (w : World) (h : LD w b m g) (hk : hasK g.keys key = true) : Calls Tryz.prog 55 #[.pointer (some ⟨b, 0, none⟩), .agg #[.int .i64 4, .string key, .float .f64 x, .int .i64 id]] w fun e w' =>
  e = .returned (.agg #[.int .i64 0, .float .f64 (valK g.keys key)]) ∧ Ext (Two b m) w w' ∧ LD w' b m (setKeys g (delK g.keys key)) := by
 obtain ⟨a1, c1, a2, c2, r, i1, i2, f1, f2⟩ := h.ex
 have q4 : w.cell? ⟨b, 4, none⟩ = some (.map (some m)) := cell_of_heap r rfl
 have hlt := h.lt
 have hml := h.mp.lt
 have HH := hI_ h
 clear r i1 i2 f1 f2
 have AP := hI_ (ApW.of (w := w) (b := b) (k := 4) (key := key) (x := x) (id := id))
 have A1 : Ext Non w ((w.alloc (.cells #[.int .i64 4, .string key, .float .f64 x, .int .i64 id] 52)).alloc (.cells #[.int .i64 0, .float .f64 0] 48)) := ((Ext.refl _ _).alloc _).alloc _
 have hl : ∀ w', Ext Non w w' → (Instr.lookup 59 (.map (some m)) (.string key) true).run Tryz.prog w' = .ok (.tuple #[.float .f64 (valK g.keys key), .bool true]) w' := by
  intro w' y
  have := (h.mp.ext y (fun f => f)).lookup Tryz.underlying59 Tryz.underlying9 (zeroF w') key
  rw [hk] at this
  exact this
 have hl1 := hl _ (A1.drew)
 clear h hl hk
 generalize valK g.keys key = v at *
 go_enter Tryz.func55, Tryz.ntmps55
 go_wp2_with fail
 go_region
 go_wp2_with fail
 have A3 := A1.drew.drew
 obtain ⟨w5, hu, hM, hX⟩ := (HH.out.mp.ext A3 (fun f => f)).delete Tryz.underlying59 Tryz.underlying9 key 0
 have P5 := AP.out.ext (S := One m) ((((Ext.refl (One m) _).drew.drew)).trans hX) (fun s => by have s : w.heap.size = m := s; omega) (fun s => by have s : w.heap.size + 1 = m := s; omega)
 have L5 := hI_ ((HH.out.extN A3).setMap hX hM)
 have Y5 : Ext (Two b m) w w5 := (A3.ofNon (S := Two b m)).step hX (fun k _ s => .inr s)
 have p1 : w5.cell? ⟨w.heap.size + 1, 0, none⟩ = some (.int .i64 0) := cell_of_heap (cur := [.int .i64 0, .float .f64 0]) P5.r rfl
 have p2 : w5.cell? ⟨w.heap.size + 1, 1, none⟩ = some (.float .f64 0) := cell_of_heap (cur := [.int .i64 0, .float .f64 0]) P5.r rfl
 have p3 : w5.frozen? ⟨w.heap.size + 1, 0, none⟩ = false := froz_of_heap (cur := [.int .i64 0, .float .f64 0]) P5.r
 have p4 : w5.frozen? ⟨w.heap.size + 1, 1, none⟩ = false := froz_of_heap (cur := [.int .i64 0, .float .f64 0]) P5.r
 go_region
 obtain ⟨y00, y0, y1⟩ := res2 (v0 := .int .i64 0) (v1 := .float .f64 v) p1 p2
 go_wp2
 refine bodyPost_ret (by simp [results, Tryz.results55, go_sem, y00, y0, y1]; try rfl) rfl ?_
 obtain ⟨E1, E2⟩ := ap_end (.int .i64 0) (.float .f64 v) P5 Y5 hlt hml L5.out
 exact ⟨rfl, E1, E2⟩
set_option maxHeartbeats 1000000 in
set_option maxRecDepth 100000 in
theorem apply_none (b m : Nat) (g : Lg) (k : Int) (key : ByteArray) (x : Nat) (id : Int) (w : World) (h : LD w b m g) (hk : hasK g.keys key = false) (hks : k = 2 ∨ k = 3 ∨ k = 4 ∨ k = 5) : Calls Tryz.prog 55 #[.pointer (some ⟨b, 0, none⟩), .agg #[.int .i64 k, .string key, .float .f64 x, .int .i64 id]] w fun e w' =>
  e = .returned (.agg #[.int .i64 1, .float .f64 0]) ∧ Ext Non w w' := by
 obtain ⟨a1, c1, a2, c2, r, i1, i2, f1, f2⟩ := h.ex
 have q4 : w.cell? ⟨b, 4, none⟩ = some (.map (some m)) := cell_of_heap r rfl
 have hlt := h.lt
 clear r i1 i2 f1 f2
 have A1 : Ext Non w ((w.alloc (.cells #[.int .i64 k, .string key, .float .f64 x, .int .i64 id] 52)).alloc (.cells #[.int .i64 0, .float .f64 0] 48)) := ((Ext.refl _ _).alloc _).alloc _
 have hl : ∀ w', Ext Non w w' → (Instr.lookup 59 (.map (some m)) (.string key) true).run Tryz.prog w' = .ok (.tuple #[.float .f64 (valK g.keys key), .bool false]) w' := by
  intro w' y
  have := (h.mp.ext y (fun f => f)).lookup Tryz.underlying59 Tryz.underlying9 (zeroF w') key
  rw [hk] at this
  exact this
 have hl1 := hl _ (A1.drew)
 clear h hl hk
 generalize valK g.keys key = v at *
 rcases hks with rfl | rfl | rfl | rfl
 all_goals
  go_enter Tryz.func55, Tryz.ntmps55
  go_wp2_with fail
  go_region
  go_wp2
  go_returns
  exact ⟨rfl, (((Ext.refl _ _).alloc _).alloc _).drew⟩
set_option maxHeartbeats 1000000 in
set_option maxRecDepth 100000 in
theorem apply_full (b m : Nat) (g : Lg) (k : Int) (key : ByteArray) (x : Nat) (id : Int) (w : World) (h : LD w b m g) (hk : hasK g.keys key = false) (hks : k = 1) (hn : g.keys.length = 16) : Calls Tryz.prog 55 #[.pointer (some ⟨b, 0, none⟩), .agg #[.int .i64 k, .string key, .float .f64 x, .int .i64 id]] w fun e w' =>
  e = .returned (.agg #[.int .i64 2, .float .f64 0]) ∧ Ext Non w w' := by
 obtain ⟨a1, c1, a2, c2, r, i1, i2, f1, f2⟩ := h.ex
 have q4 : w.cell? ⟨b, 4, none⟩ = some (.map (some m)) := cell_of_heap r rfl
 have hlt := h.lt
 clear r i1 i2 f1 f2
 have A1 : Ext Non w ((w.alloc (.cells #[.int .i64 k, .string key, .float .f64 x, .int .i64 id] 52)).alloc (.cells #[.int .i64 0, .float .f64 0] 48)) := ((Ext.refl _ _).alloc _).alloc _
 have hl : ∀ w', Ext Non w w' → (Instr.lookup 59 (.map (some m)) (.string key) true).run Tryz.prog w' = .ok (.tuple #[.float .f64 (valK g.keys key), .bool false]) w' := by
  intro w' y
  have := (h.mp.ext y (fun f => f)).lookup Tryz.underlying59 Tryz.underlying9 (zeroF w') key
  rw [hk] at this
  exact this
 have hl1 := hl _ (A1.drew)
 have hlen := (h.mp.ext A1.drew (fun f => f)).len Tryz.underlying59 3
 rw [hn] at hlen
 clear h hl hk
 generalize valK g.keys key = v at *
 subst hks
 all_goals
  go_enter Tryz.func55, Tryz.ntmps55
  go_wp2_with fail
  go_region
  go_wp2
  go_returns
  exact ⟨rfl, (((Ext.refl _ _).alloc _).alloc _).drew⟩
end Go.Proofs.YtfefeepljbfcdaaGreat

/- Contracts of layer 12 (ledger): apply as a whole, Do. -/
namespace Go.Proofs.YtfefeepljbfcdaaGreat
open Go.RowKit F64
set_option linter.unusedSimpArgs false
set_option linter.unusedVariables false
attribute [local go_sem] run_store_float
theorem applyL_key (g : Lg) (o : Opn) (h6 : o.kind ≠ 6) (h7 : o.kind ≠ 7) : applyL g o = (if hasK g.keys o.key = true then
    (if o.kind = 1 then setKeys g (setK g.keys o.key (canonN o.real))
     else if o.kind = 2 then setKeys g (setK g.keys o.key (addN (valK g.keys o.key) o.real))
     else if o.kind = 3 then setKeys g (setK g.keys o.key (mostN (valK g.keys o.key) o.real))
     else if o.kind = 4 then setKeys g (delK g.keys o.key)
     else setKeys g (setK g.keys o.key (valK g.keys o.key)))
  else if o.kind = 1 then (if g.keys.length = 16 then g else setKeys g (setK g.keys o.key (canonN o.real)))
  else g) := by unfold applyL; rw [if_neg h6, if_neg h7]
theorem applyR_key (g : Lg) (o : Opn) (h6 : o.kind ≠ 6) (h7 : o.kind ≠ 7) : applyR g o = (if hasK g.keys o.key = true then
    (if o.kind = 1 then ⟨0, canonN o.real⟩
     else if o.kind = 2 then ⟨0, addN (valK g.keys o.key) o.real⟩
     else if o.kind = 3 then ⟨0, mostN (valK g.keys o.key) o.real⟩
     else if o.kind = 4 then ⟨0, valK g.keys o.key⟩
     else ⟨0, valK g.keys o.key⟩)
  else if o.kind = 1 then (if g.keys.length = 16 then ⟨2, 0⟩ else ⟨0, canonN o.real⟩)
  else ⟨1, 0⟩) := by unfold applyR; rw [if_neg h6, if_neg h7]
theorem ledger_apply (b m : Nat) (g : Lg) (I : Inv g) (k : Int) (key : ByteArray) (x : Nat) (id : Int) (ho : opB ⟨k, key, x, id⟩ = true) (hx : x < 18446744073709551616) (w : World) (h : LD w b m g) :
  Calls Tryz.prog 55 #[.pointer (some ⟨b, 0, none⟩), .agg #[.int .i64 k, .string key, .float .f64 x, .int .i64 id]] w fun e w' =>
  e = .returned (.agg #[.int .i64 (applyR g ⟨k, key, x, id⟩).code, .float .f64 (applyR g ⟨k, key, x, id⟩).real]) ∧ Ext (Two b m) w w' ∧ LD w' b m (applyL g ⟨k, key, x, id⟩) := by
 have hks : k = 1 ∨ k = 2 ∨ k = 3 ∨ k = 4 ∨ k = 5 ∨ k = 6 ∨ k = 7 := by
  unfold opB at ho
  simp only at ho
  split at ho
  ·omega
  ·split at ho
   ·omega
   ·split at ho
    ·omega
    ·cases ho
 have h67 : (k = 6 ∨ k = 7) ∨ (k ≠ 6 ∧ k ≠ 7) := by omega
 rcases h67 with h67 | ⟨h6, h7⟩
 ·rcases h67 with rfl | rfl
  ·exact apply_join b m g key x id w h
  ·exact apply_leave b m g key x id w h
 ·rw [applyL_key g ⟨k, key, x, id⟩ h6 h7, applyR_key g ⟨k, key, x, id⟩ h6 h7]
  simp only
  cases hk : hasK g.keys key
  ·simp only [Bool.false_eq_true, if_false]
   by_cases h1 : k = 1
   ·subst h1
    simp only [if_true]
    by_cases hn : g.keys.length = 16
    ·rw [if_pos hn, if_pos hn]
     exact (apply_full b m g 1 key x id w h hk rfl hn).mono fun e w' ⟨h1, h2⟩ => ⟨h1, h2.ofNon, h.extN h2⟩
    ·rw [if_neg hn, if_neg hn]
     exact apply_new b m g key x id w h hk hn
   ·rw [if_neg h1, if_neg h1]
    exact (apply_none b m g k key x id w h hk (by omega)).mono fun e w' ⟨h1, h2⟩ => ⟨h1, h2.ofNon, h.extN h2⟩
  ·simp only [if_true]
   have hv := (val_ok I key).1
   rcases hks with rfl | rfl | rfl | rfl | rfl | rfl | rfl
   ·exact apply_put b m g key x id w h hk
   ·exact apply_add b m g key x id w h hk
   ·exact apply_max b m g key x id w h hk hv hx
   ·exact apply_cut b m g key x id w h hk
   ·exact apply_get b m g key x id w h hk
   ·exact absurd rfl h6
   ·exact absurd rfl h7
structure DoW (w w' : World) (c s k : Int) (key : ByteArray) (x : Nat) (id : Int) : Prop where
 o : w'.heap[w.heap.size]? = some (.cells #[.int .i64 c, .int .i64 s, .int .i64 k, .string key, .float .f64 x, .int .i64 id] 54 (0, 0))
 r : w'.heap[w.heap.size + 1]? = some (.cells #[.int .i64 0, .float .f64 0] 48 (0, 0))
abbrev doBase (w : World) (c s k : Int) (key : ByteArray) (x : Nat) (id : Int) : World := (w.alloc (.cells #[.int .i64 c, .int .i64 s, .int .i64 k, .string key, .float .f64 x, .int .i64 id] 54)).alloc (.cells #[.int .i64 0, .float .f64 0] 48)
theorem DoW.of {w : World} {c s k : Int} {key : ByteArray} {x : Nat} {id : Int} : DoW w (doBase w c s k key x id) c s k key x id := by
 have e1 := heap_alloc_new w (.cells #[.int .i64 c, .int .i64 s, .int .i64 k, .string key, .float .f64 x, .int .i64 id] 54)
 have e2 := (((Ext.refl Non _).alloc (.cells #[.int .i64 0, .float .f64 0] 48) : Ext Non (w.alloc (.cells #[.int .i64 c, .int .i64 s, .int .i64 k, .string key, .float .f64 x, .int .i64 id] 54)) _).block w.heap.size (by simp) (fun f => f)).trans e1
 have g1 := heap_alloc_new (w.alloc (.cells #[.int .i64 c, .int .i64 s, .int .i64 k, .string key, .float .f64 x, .int .i64 id] 54)) (.cells #[.int .i64 0, .float .f64 0] 48)
 have es : (w.alloc (.cells #[.int .i64 c, .int .i64 s, .int .i64 k, .string key, .float .f64 x, .int .i64 id] 54)).heap.size = w.heap.size + 1 := by simp
 rw [es] at g1
 exact ⟨e2, g1⟩
theorem DoW.ext {S : Nat → Prop} {w w' w'' : World} {c s k : Int} {key : ByteArray} {x : Nat} {id : Int} (h : DoW w w' c s k key x id) (y : Ext S w' w'') (h1 : ¬ S w.heap.size) (h2 : ¬ S (w.heap.size + 1)) : DoW w w'' c s k key x id :=
 ⟨(y.block _ (Array.getElem?_eq_some_iff.1 h.o).1 h1).trans h.o, (y.block _ (Array.getElem?_eq_some_iff.1 h.r).1 h2).trans h.r⟩
theorem DoW.noInts {w w' : World} {c s k : Int} {key : ByteArray} {x : Nat} {id : Int} (h : DoW w w' c s k key x id) : NoInts (One (w.heap.size + 1)) w' := by
 intro j s vs fr e
 have s : j = w.heap.size + 1 := s
 subst s
 rw [h.r] at e; cases e
theorem DoW.cells {w w' : World} {c s k : Int} {key : ByteArray} {x : Nat} {id : Int} (h : DoW w w' c s k key x id) :
  w'.cell? ⟨w.heap.size, 0, none⟩ = some (.int .i64 c) ∧ w'.cell? ⟨w.heap.size, 1, none⟩ = some (.int .i64 s) ∧ w'.cell? ⟨w.heap.size, 2, none⟩ = some (.int .i64 k) ∧ w'.cell? ⟨w.heap.size, 3, none⟩ = some (.string key) ∧
  w'.cell? ⟨w.heap.size, 4, none⟩ = some (.float .f64 x) ∧ w'.cell? ⟨w.heap.size, 5, none⟩ = some (.int .i64 id) :=
 have q := fun {i : Nat} {v : Value} => @cell_of_heap w' w.heap.size i [.int .i64 c, .int .i64 s, .int .i64 k, .string key, .float .f64 x, .int .i64 id] _ v h.o
 ⟨q rfl, q rfl, q rfl, q rfl, q rfl, q rfl⟩
theorem DoW.res {w w' : World} {c s k : Int} {key : ByteArray} {x : Nat} {id : Int} (h : DoW w w' c s k key x id) :
  w'.cell? ⟨w.heap.size + 1, 0, none⟩ = some (.int .i64 0) ∧ w'.cell? ⟨w.heap.size + 1, 1, none⟩ = some (.float .f64 0) ∧ w'.frozen? ⟨w.heap.size + 1, 0, none⟩ = false ∧ w'.frozen? ⟨w.heap.size + 1, 1, none⟩ = false :=
 ⟨cell_of_heap (cur := [.int .i64 0, .float .f64 0]) h.r rfl, cell_of_heap (cur := [.int .i64 0, .float .f64 0]) h.r rfl, froz_of_heap (cur := [.int .i64 0, .float .f64 0]) h.r, froz_of_heap (cur := [.int .i64 0, .float .f64 0]) h.r⟩
theorem do_end {w w3 : World} {b m : Nat} {c s k : Int} {key : ByteArray} {x : Nat} {id : Int} {S : Nat → Prop} {g' : Lg} (v0 v1 : Value) (h : DoW w w3 c s k key x id) (y : Ext S w w3) (hb : b < w.heap.size) (hm : m < w.heap.size) (L : LD w3 b m g') :
  Ext S w ((w3.setCell ⟨w.heap.size + 1, 0, none⟩ v0).setCell ⟨w.heap.size + 1, 1, none⟩ v1) ∧ LD ((w3.setCell ⟨w.heap.size + 1, 0, none⟩ v0).setCell ⟨w.heap.size + 1, 1, none⟩ v1) b m g' := by
 have z : Ext (One (w.heap.size + 1)) w3 ((w3.setCell ⟨w.heap.size + 1, 0, none⟩ v0).setCell ⟨w.heap.size + 1, 1, none⟩ v1) := ((Ext.refl _ w3).set1 _).set1 _
 refine ⟨y.step z (fun i hi s => ?_), L.ext z (fun s => ?_) (fun s => ?_) h.noInts⟩
 ·have s : i = w.heap.size + 1 := s; omega
 ·have s : b = w.heap.size + 1 := s; omega
 ·have s : m = w.heap.size + 1 := s; omega
set_option maxHeartbeats 1000000 in
set_option maxRecDepth 100000 in
theorem do_arg (v : Option Addr) (c s k : Int) (key : ByteArray) (x : Nat) (id : Int) (hc : I64 c) (hs : I64 s) (hk : I64 k) (hid : I64 id)
  (h0 : v = none ∨ (rightB ⟨c, s, ⟨k, key, x, id⟩⟩ = false ∧ nullB ⟨c, s, ⟨k, key, x, id⟩⟩ = false)) (w : World) :
  Calls Tryz.prog 13 #[.pointer v, .agg #[.int .i64 c, .int .i64 s, .int .i64 k, .string key, .float .f64 x, .int .i64 id]] w fun e w' =>
  e = .returned (.tuple #[.agg #[.int .i64 0, .float .f64 0], .int .i64 1]) ∧ Ext Non w w' := by
 have DW := hI_ (DoW.of (w := w) (c := c) (s := s) (k := k) (key := key) (x := x) (id := id))
 have A1 := hI_ (show Ext Non w (doBase w c s k key x id) from ((Ext.refl _ _).alloc _).alloc _)
 cases v with
 | none =>
  clear h0 hc hs hk hid DW A1
  go_enter Tryz.func13, Tryz.ntmps13
  go_wp2
  refine bodyPost_ret (by simp [results, Tryz.results13, go_sem]; try rfl) rfl ?_
  exact ⟨rfl, ((Ext.refl _ _).alloc _).alloc _⟩
 | some p =>
  obtain ⟨h1, h2⟩ := h0.resolve_left (fun h => by cases h)
  have H1 := hI_ h1; have H2 := hI_ h2
  have I := hI_ (And.intro hc (And.intro hs (And.intro hk hid)))
  clear h0 h1 h2 hc hs hk hid
  go_enter Tryz.func13, Tryz.ntmps13
  go_wp2_with fail
  refine (deeds_Right c s k key x id _).mono ?_
  rintro e w1 ⟨rfl, y1⟩
  rw [H1.out]
  have D1 := DW.out.ext y1 (fun f => f) (fun f => f)
  obtain ⟨q0, q1, q2, q3, q4, q5⟩ := D1.cells
  go_wp2_with fail
  refine (deeds_Null c s k key x id I.out.1 I.out.2.1 I.out.2.2.1 I.out.2.2.2 _).mono ?_
  rintro e w2 ⟨rfl, y2⟩
  rw [H2.out]
  obtain ⟨p1, p2, p3, p4⟩ := (D1.ext y2 (fun f => f) (fun f => f)).res
  obtain ⟨y00, y0', y1'⟩ := res2 (v0 := .int .i64 0) (v1 := .float .f64 0) p1 p2
  have A2 := hI_ ((A1.out.trans y1).trans y2)
  go_wp2
  refine bodyPost_ret (by simp [results, Tryz.results13, go_sem, y00, y0', y1']; try rfl) rfl ?_
  exact ⟨rfl, (A2.out.setCell (.inr (Nat.le_succ _)) _).setCell (.inr (Nat.le_succ _)) _⟩
end Go.Proofs.YtfefeepljbfcdaaGreat

/- Contracts of layer 12 (ledger): Do, its other ways. -/
namespace Go.Proofs.YtfefeepljbfcdaaGreat
open Go.RowKit F64
set_option linter.unusedSimpArgs false
set_option linter.unusedVariables false
attribute [local go_sem] run_store_float
theorem tick_row {w1 : World} {b m : Nat} {g : Lg} (n : Nat) (L1 : LD w1 b m g) : ∃ a1 c1 a2 c2, (w1.drewN n).cell? ⟨b, 3, none⟩ = some (.int .i64 g.done) ∧ (w1.drewN n).frozen? ⟨b, 3, none⟩ = false ∧
  LRow ((w1.drewN n).setCell ⟨b, 3, none⟩ (.int .i64 (g.done + 1))) b m (tick g) a1 c1 a2 c2 ∧ LD ((w1.drewN n).setCell ⟨b, 3, none⟩ (.int .i64 (g.done + 1))) b m (tick g) := by
 obtain ⟨a1, c1, a2, c2, r, i1, i2, f1, f2⟩ := L1.ex
 have r2 : LRow (w1.drewN n) b m g a1 c1 a2 c2 := r
 have r3 : LRow ((w1.drewN n).setCell ⟨b, 3, none⟩ (.int .i64 (g.done + 1))) b m (tick g) a1 c1 a2 c2 := heap_set_same (k := 3) r2 _
 exact ⟨a1, c1, a2, c2, cell_of_heap r2 rfl, froz_of_heap r2, r3, L1.set (((Ext.refl _ _).drewN n).set1 _) r3 i1 i2 f1 f2 rfl⟩
set_option maxHeartbeats 1000000 in
set_option maxRecDepth 100000 in
theorem do_full (b m : Nat) (g : Lg) (I : Inv g) (c s k : Int) (key : ByteArray) (x : Nat) (id : Int) (hc : I64 c) (hs : I64 s) (hk : I64 k) (hid : I64 id)
  (h0 : rightB ⟨c, s, ⟨k, key, x, id⟩⟩ = true ∨ nullB ⟨c, s, ⟨k, key, x, id⟩⟩ = true) (hf : fullB g = true) (w : World) (h : LD w b m g) :
  Calls Tryz.prog 13 #[.pointer (some ⟨b, 0, none⟩), .agg #[.int .i64 c, .int .i64 s, .int .i64 k, .string key, .float .f64 x, .int .i64 id]] w fun e w' =>
  e = .returned (.tuple #[.agg #[.int .i64 0, .float .f64 0], .int .i64 18]) ∧ Ext Non w w' := by
 have DW := hI_ (DoW.of (w := w) (c := c) (s := s) (k := k) (key := key) (x := x) (id := id))
 have A1 := hI_ (show Ext Non w (doBase w c s k key x id) from ((Ext.refl _ _).alloc _).alloc _)
 have II := hI_ I
 have HH := hI_ h
 have HF := hI_ hf
 have I4 := hI_ (And.intro hc (And.intro hs (And.intro hk hid)))
 cases h1 : rightB ⟨c, s, ⟨k, key, x, id⟩⟩
 ·have h2 : nullB ⟨c, s, ⟨k, key, x, id⟩⟩ = true := h0.resolve_left (by rw [h1]; simp)
  have H1 := hI_ h1; have H2 := hI_ h2
  clear h0 h1 h2 hc hs hk hid I h hf
  go_enter Tryz.func13, Tryz.ntmps13
  go_wp2_with fail
  refine (deeds_Right c s k key x id _).mono ?_
  rintro e w1 ⟨rfl, y1⟩
  rw [H1.out]
  have D1 := DW.out.ext y1 (fun f => f) (fun f => f)
  obtain ⟨q0, q1, q2, q3, q4, q5⟩ := D1.cells
  go_wp2_with fail
  refine (deeds_Null c s k key x id I4.out.1 I4.out.2.1 I4.out.2.2.1 I4.out.2.2.2 _).mono ?_
  rintro e w2 ⟨rfl, y2⟩
  rw [H2.out]
  have D2 := hI_ (D1.ext y2 (fun f => f) (fun f => f))
  have A2 := hI_ ((A1.out.trans y1).trans y2)
  clear D1 q0 q1 q2 q3 q4 q5 y1 y2
  go_wp2_with fail
  refine (ledger_Full b m g II.out _ (HH.out.extN A2.out)).mono ?_
  rintro e w3 ⟨rfl, n, rfl⟩
  rw [HF.out]
  obtain ⟨p1, p2, p3, p4⟩ := (D2.out.ext ((Ext.refl Non _).drewN n) (fun f => f) (fun f => f)).res
  obtain ⟨y00, y0', y1'⟩ := res2 (v0 := .int .i64 0) (v1 := .float .f64 0) p1 p2
  go_wp2
  refine bodyPost_ret (by simp [results, Tryz.results13, go_sem, y00, y0', y1']; try rfl) rfl ?_
  exact ⟨rfl, ((A2.out.drewN n).setCell (.inr (Nat.le_succ _)) _).setCell (.inr (Nat.le_succ _)) _⟩
 ·have H1 := hI_ h1
  clear h0 h1 hc hs hk hid I h hf
  go_enter Tryz.func13, Tryz.ntmps13
  go_wp2_with fail
  refine (deeds_Right c s k key x id _).mono ?_
  rintro e w1 ⟨rfl, y1⟩
  rw [H1.out]
  have D2 := hI_ (DW.out.ext y1 (fun f => f) (fun f => f))
  have A2 := hI_ (A1.out.trans y1)
  clear y1
  go_wp2_with fail
  refine (ledger_Full b m g II.out _ (HH.out.extN A2.out)).mono ?_
  rintro e w3 ⟨rfl, n, rfl⟩
  rw [HF.out]
  obtain ⟨p1, p2, p3, p4⟩ := (D2.out.ext ((Ext.refl Non _).drewN n) (fun f => f) (fun f => f)).res
  obtain ⟨y00, y0', y1'⟩ := res2 (v0 := .int .i64 0) (v1 := .float .f64 0) p1 p2
  go_wp2
  refine bodyPost_ret (by simp [results, Tryz.results13, go_sem, y00, y0', y1']; try rfl) rfl ?_
  exact ⟨rfl, ((A2.out.drewN n).setCell (.inr (Nat.le_succ _)) _).setCell (.inr (Nat.le_succ _)) _⟩
set_option maxHeartbeats 1000000 in
set_option maxRecDepth 100000 in
theorem do_null (b m : Nat) (g : Lg) (I : Inv g) (c s k : Int) (key : ByteArray) (x : Nat) (id : Int) (hc : I64 c) (hs : I64 s) (hk : I64 k) (hid : I64 id)
  (h2 : nullB ⟨c, s, ⟨k, key, x, id⟩⟩ = true) (hf : fullB g = false) (w : World) (h : LD w b m g) :
  Calls Tryz.prog 13 #[.pointer (some ⟨b, 0, none⟩), .agg #[.int .i64 c, .int .i64 s, .int .i64 k, .string key, .float .f64 x, .int .i64 id]] w fun e w' =>
  e = .returned (.tuple #[.agg #[.int .i64 8, .float .f64 0], .int .i64 0]) ∧ Ext (Two b m) w w' ∧ LD w' b m (tick g) := by
 have DW := hI_ (DoW.of (w := w) (c := c) (s := s) (k := k) (key := key) (x := x) (id := id))
 have A1 := hI_ (show Ext Non w (doBase w c s k key x id) from ((Ext.refl _ _).alloc _).alloc _)
 have II := hI_ I
 have HH := hI_ h
 have HF := hI_ hf
 have I4 := hI_ (And.intro hc (And.intro hs (And.intro hk hid)))
 have H1 := hI_ (null_not_right h2)
 have H2 := hI_ h2
 have wr : IntKind.i64.wrap (g.done + 1) = g.done + 1 := by have := I.ep; have := I.dn; exact IntWalk.i64_in _ (by omega)
 have hlt := h.lt
 have hml := h.mp.lt
 clear h2 hc hs hk hid I h hf
 go_enter Tryz.func13, Tryz.ntmps13
 go_wp2_with fail
 refine (deeds_Right c s k key x id _).mono ?_
 rintro e w1 ⟨rfl, y1⟩
 rw [H1.out]
 have D1 := DW.out.ext y1 (fun f => f) (fun f => f)
 obtain ⟨q0, q1, q2, q3, q4, q5⟩ := D1.cells
 go_wp2_with fail
 refine (deeds_Null c s k key x id I4.out.1 I4.out.2.1 I4.out.2.2.1 I4.out.2.2.2 _).mono ?_
 rintro e w2 ⟨rfl, y2⟩
 rw [H2.out]
 have D2 := hI_ (D1.ext y2 (fun f => f) (fun f => f))
 have A2 := hI_ ((A1.out.trans y1).trans y2)
 clear D1 q0 q1 q2 q3 q4 q5 y1 y2
 have L2 := hI_ (HH.out.extN A2.out)
 go_wp2_with fail
 refine (ledger_Full b m g II.out _ L2.out).mono ?_
 rintro e w3 ⟨rfl, n, rfl⟩
 rw [HF.out]
 obtain ⟨a1, c1, a2, c2, t1, t2, t3, t4⟩ := tick_row n L2.out
 have T4 := hI_ t4; clear t3 t4
 have x3 : Ext (One b) w2 ((w2.drewN n).setCell ⟨b, 3, none⟩ (.int .i64 (g.done + 1))) := ((Ext.refl _ _).drewN n).set1 _
 have D3 := hI_ (D2.out.ext x3 (fun s => by have s : w.heap.size = b := s; omega) (fun s => by have s : w.heap.size + 1 = b := s; omega))
 have X3 := hI_ x3; clear x3
 obtain ⟨q0, q1, q2, q3, q4, q5⟩ := D3.out.cells
 go_wp2_with fail
 refine (deeds_Null c s k key x id I4.out.1 I4.out.2.1 I4.out.2.2.1 I4.out.2.2.2 _).mono ?_
 rintro e w5 ⟨rfl, y5⟩
 rw [H2.out]
 clear q0 q1 q2 q3 q4 q5 t1 t2
 have D5 := hI_ (D3.out.ext y5 (fun f => f) (fun f => f))
 obtain ⟨p1, p2, p3, p4⟩ := D5.out.res
 obtain ⟨y00, y0', y1'⟩ := res2 (v0 := .int .i64 8) (v1 := .float .f64 0) p1 p2
 have L5 := hI_ (T4.out.extN y5)
 have Y5 := hI_ (((A2.out.ofNon (S := Two b m)).step X3.out (fun k _ s => .inl s)).trans y5.ofNon)
 clear y5
 go_wp2
 refine bodyPost_ret (by simp [results, Tryz.results13, go_sem, y00, y0', y1']; try rfl) rfl ?_
 obtain ⟨E1, E2⟩ := do_end (.int .i64 8) (.float .f64 0) D5.out Y5.out hlt hml L5.out
 exact ⟨rfl, E1, E2⟩
end Go.Proofs.YtfefeepljbfcdaaGreat
