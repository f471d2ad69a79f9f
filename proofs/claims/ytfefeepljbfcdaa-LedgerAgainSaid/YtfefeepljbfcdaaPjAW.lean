/- Joined texts: Ledg4. What each proves stands at its head; no conditions beside those in its theorems. -/
import Derived.Test.YtfefeepljbfcdaaPjAA
import Derived.Test.YtfefeepljbfcdaaPjAB
import Derived.Test.YtfefeepljbfcdaaPjAE
import Derived.Test.YtfefeepljbfcdaaPjAI
import Derived.Test.YtfefeepljbfcdaaPjAF
import Derived.Test.YtfefeepljbfcdaaPjAJ
import Derived.Test.YtfefeepljbfcdaaPjAK
import Derived.Test.YtfefeepljbfcdaaPjAO
import Derived.Test.YtfefeepljbfcdaaPjAP
import Derived.Test.YtfefeepljbfcdaaPjAT
import Derived.Test.YtfefeepljbfcdaaPjAU
import Derived.Test.YtfefeepljbfcdaaPjAV
/- Contracts of layer 12 (ledger): apply, of what has a key. Printed by wip/genapply.py. -/
namespace Go.Proofs.Ytfefeepljbfcdaa
open Go.RowKit F64
set_option linter.unusedSimpArgs false
set_option linter.unusedVariables false
attribute [local go_sem] run_store_float

theorem LD.setMap {w w' : World} {b m : Nat} {g : Lg} {ks : Ks} (h : LD w b m g) (x : Ext (One m) w w') (hm : MapW w' m ks) : LD w' b m (setKeys g ks) := by
  have ns : NoInts (One m) w := fun k s => h.noInts k (.inr s)
  have hb := h.lt
  have hne := h.ne
  obtain ⟨a1, c1, a2, c2, r, i1, i2, f1, f2⟩ := h.ex
  exact ⟨⟨a1, c1, a2, c2, (x.block b hb (fun s => hne s)).trans r, i1.extT f1 x ns, i2.extT f2 x ns, f1.ext x ns, f2.ext x ns⟩, hm⟩

set_option maxHeartbeats 1000000 in
set_option maxRecDepth 100000 in
theorem apply_get (b m : Nat) (g : Lg) (key : ByteArray) (x : Nat) (id : Int) (w : World) (h : LD w b m g) (hk : hasK g.keys key = true) : Calls Try.prog 33 #[.pointer (some ⟨b, 0, none⟩), .agg #[.int .i64 5, .string key, .float .f64 x, .int .i64 id]] w fun e w' =>
    e = .returned (.agg #[.int .i64 0, .float .f64 (valK g.keys key)]) ∧ Ext (Two b m) w w' ∧ LD w' b m (setKeys g (setK g.keys key (valK g.keys key))) := by
  obtain ⟨a1, c1, a2, c2, r, i1, i2, f1, f2⟩ := h.ex
  have q4 : w.cell? ⟨b, 4, none⟩ = some (.map (some m)) := cell_of_heap r rfl
  have hlt := h.lt
  have hml := h.mp.lt
  have HH := Go.Lib.hid h
  clear r i1 i2 f1 f2
  have AP := Go.Lib.hid (ApW.of (w := w) (b := b) (k := 5) (key := key) (x := x) (id := id))
  have A1 : Ext Non w ((w.alloc (.cells #[.int .i64 5, .string key, .float .f64 x, .int .i64 id] 47)).alloc (.cells #[.int .i64 0, .float .f64 0] 43)) := ((Ext.refl _ _).alloc _).alloc _
  have hl : ∀ w', Ext Non w w' → (Instr.lookup 76 (.map (some m)) (.string key) true).run Try.prog w' = .ok (.tuple #[.float .f64 (valK g.keys key), .bool true]) w' := by
    intro w' y
    have := (h.mp.ext y (fun f => f)).lookup Try.underlying76 Try.underlying9 (zeroF w') key
    rw [hk] at this
    exact this
  have hl1 := hl _ (A1.drew)
  clear h hl hk
  generalize valK g.keys key = v at *
  go_enter Try.func33, Try.ntmps33
  go_wp2_with fail
  go_region
  go_wp2_with fail
  have A3 := A1.drew.drew
  obtain ⟨w5, hu, hM, hX⟩ := (HH.out.mp.ext A3 (fun f => f)).update Try.underlying76 Try.underlying9 key v
  have P5 := AP.out.ext (S := One m) ((((Ext.refl (One m) _).drew.drew)).trans hX) (fun s => by have s : w.heap.size = m := s; omega) (fun s => by have s : w.heap.size + 1 = m := s; omega)
  have L5 := Go.Lib.hid ((HH.out.extN A3).setMap hX hM)
  have Y5 : Ext (Two b m) w w5 := (A3.ofNon (S := Two b m)).step hX (fun k _ s => .inr s)
  have p1 : w5.cell? ⟨w.heap.size + 1, 0, none⟩ = some (.int .i64 0) := cell_of_heap (cur := [.int .i64 0, .float .f64 0]) P5.r rfl
  have p2 : w5.cell? ⟨w.heap.size + 1, 1, none⟩ = some (.float .f64 0) := cell_of_heap (cur := [.int .i64 0, .float .f64 0]) P5.r rfl
  have p3 : w5.frozen? ⟨w.heap.size + 1, 0, none⟩ = false := froz_of_heap (cur := [.int .i64 0, .float .f64 0]) P5.r
  have p4 : w5.frozen? ⟨w.heap.size + 1, 1, none⟩ = false := froz_of_heap (cur := [.int .i64 0, .float .f64 0]) P5.r
  go_region
  obtain ⟨y00, y0, y1⟩ := res2 (v0 := .int .i64 0) (v1 := .float .f64 v) p1 p2
  go_wp2
  refine bodyPost_ret (by simp [results, Try.results33, go_sem, y00, y0, y1]; try rfl) rfl ?_
  obtain ⟨E1, E2⟩ := ap_end (.int .i64 0) (.float .f64 v) P5 Y5 hlt hml L5.out
  exact ⟨rfl, E1, E2⟩

set_option maxHeartbeats 1000000 in
set_option maxRecDepth 100000 in
theorem apply_put (b m : Nat) (g : Lg) (key : ByteArray) (x : Nat) (id : Int) (w : World) (h : LD w b m g) (hk : hasK g.keys key = true) : Calls Try.prog 33 #[.pointer (some ⟨b, 0, none⟩), .agg #[.int .i64 1, .string key, .float .f64 x, .int .i64 id]] w fun e w' =>
    e = .returned (.agg #[.int .i64 0, .float .f64 (canonN x)]) ∧ Ext (Two b m) w w' ∧ LD w' b m (setKeys g (setK g.keys key (canonN x))) := by
  obtain ⟨a1, c1, a2, c2, r, i1, i2, f1, f2⟩ := h.ex
  have q4 : w.cell? ⟨b, 4, none⟩ = some (.map (some m)) := cell_of_heap r rfl
  have hlt := h.lt
  have hml := h.mp.lt
  have HH := Go.Lib.hid h
  clear r i1 i2 f1 f2
  have AP := Go.Lib.hid (ApW.of (w := w) (b := b) (k := 1) (key := key) (x := x) (id := id))
  have A1 : Ext Non w ((w.alloc (.cells #[.int .i64 1, .string key, .float .f64 x, .int .i64 id] 47)).alloc (.cells #[.int .i64 0, .float .f64 0] 43)) := ((Ext.refl _ _).alloc _).alloc _
  have hl : ∀ w', Ext Non w w' → (Instr.lookup 76 (.map (some m)) (.string key) true).run Try.prog w' = .ok (.tuple #[.float .f64 (valK g.keys key), .bool true]) w' := by
    intro w' y
    have := (h.mp.ext y (fun f => f)).lookup Try.underlying76 Try.underlying9 (zeroF w') key
    rw [hk] at this
    exact this
  have hl1 := hl _ (A1.drew)
  clear h hl hk
  generalize valK g.keys key = v at *
  go_enter Try.func33, Try.ntmps33
  go_wp2_with fail
  go_region
  go_wp2_with (go_at_call 65; refine (reals_Canon _ _).mono ?_; rintro e w' ⟨rfl, rfl⟩)
  have A3 := A1.drew.drew
  obtain ⟨w5, hu, hM, hX⟩ := (HH.out.mp.ext A3 (fun f => f)).update Try.underlying76 Try.underlying9 key (canonN x)
  have P5 := AP.out.ext (S := One m) ((((Ext.refl (One m) _).drew.drew)).trans hX) (fun s => by have s : w.heap.size = m := s; omega) (fun s => by have s : w.heap.size + 1 = m := s; omega)
  have L5 := Go.Lib.hid ((HH.out.extN A3).setMap hX hM)
  have Y5 : Ext (Two b m) w w5 := (A3.ofNon (S := Two b m)).step hX (fun k _ s => .inr s)
  have p1 : w5.cell? ⟨w.heap.size + 1, 0, none⟩ = some (.int .i64 0) := cell_of_heap (cur := [.int .i64 0, .float .f64 0]) P5.r rfl
  have p2 : w5.cell? ⟨w.heap.size + 1, 1, none⟩ = some (.float .f64 0) := cell_of_heap (cur := [.int .i64 0, .float .f64 0]) P5.r rfl
  have p3 : w5.frozen? ⟨w.heap.size + 1, 0, none⟩ = false := froz_of_heap (cur := [.int .i64 0, .float .f64 0]) P5.r
  have p4 : w5.frozen? ⟨w.heap.size + 1, 1, none⟩ = false := froz_of_heap (cur := [.int .i64 0, .float .f64 0]) P5.r
  go_region
  obtain ⟨y00, y0, y1⟩ := res2 (v0 := .int .i64 0) (v1 := .float .f64 (canonN x)) p1 p2
  go_wp2
  refine bodyPost_ret (by simp [results, Try.results33, go_sem, y00, y0, y1]; try rfl) rfl ?_
  obtain ⟨E1, E2⟩ := ap_end (.int .i64 0) (.float .f64 (canonN x)) P5 Y5 hlt hml L5.out
  exact ⟨rfl, E1, E2⟩

set_option maxHeartbeats 1000000 in
set_option maxRecDepth 100000 in
theorem apply_add (b m : Nat) (g : Lg) (key : ByteArray) (x : Nat) (id : Int) (w : World) (h : LD w b m g) (hk : hasK g.keys key = true) : Calls Try.prog 33 #[.pointer (some ⟨b, 0, none⟩), .agg #[.int .i64 2, .string key, .float .f64 x, .int .i64 id]] w fun e w' =>
    e = .returned (.agg #[.int .i64 0, .float .f64 (addN (valK g.keys key) x)]) ∧ Ext (Two b m) w w' ∧ LD w' b m (setKeys g (setK g.keys key (addN (valK g.keys key) x))) := by
  obtain ⟨a1, c1, a2, c2, r, i1, i2, f1, f2⟩ := h.ex
  have q4 : w.cell? ⟨b, 4, none⟩ = some (.map (some m)) := cell_of_heap r rfl
  have hlt := h.lt
  have hml := h.mp.lt
  have HH := Go.Lib.hid h
  clear r i1 i2 f1 f2
  have AP := Go.Lib.hid (ApW.of (w := w) (b := b) (k := 2) (key := key) (x := x) (id := id))
  have A1 : Ext Non w ((w.alloc (.cells #[.int .i64 2, .string key, .float .f64 x, .int .i64 id] 47)).alloc (.cells #[.int .i64 0, .float .f64 0] 43)) := ((Ext.refl _ _).alloc _).alloc _
  have hl : ∀ w', Ext Non w w' → (Instr.lookup 76 (.map (some m)) (.string key) true).run Try.prog w' = .ok (.tuple #[.float .f64 (valK g.keys key), .bool true]) w' := by
    intro w' y
    have := (h.mp.ext y (fun f => f)).lookup Try.underlying76 Try.underlying9 (zeroF w') key
    rw [hk] at this
    exact this
  have hl1 := hl _ (A1.drew)
  clear h hl hk
  generalize valK g.keys key = v at *
  go_enter Try.func33, Try.ntmps33
  go_wp2_with fail
  go_region
  go_wp2_with (go_at_call 66; refine (reals_Add _ _ _).mono ?_; rintro e w6 ⟨rfl, n, rfl⟩)
  have A3 := A1.drewN (1 + n + 1)
  obtain ⟨w5, hu, hM, hX⟩ := (HH.out.mp.ext A3 (fun f => f)).update Try.underlying76 Try.underlying9 key (addN v x)
  have P5 := AP.out.ext (S := One m) ((((Ext.refl (One m) _).drewN (1 + n + 1))).trans hX) (fun s => by have s : w.heap.size = m := s; omega) (fun s => by have s : w.heap.size + 1 = m := s; omega)
  have L5 := Go.Lib.hid ((HH.out.extN A3).setMap hX hM)
  have Y5 : Ext (Two b m) w w5 := (A3.ofNon (S := Two b m)).step hX (fun k _ s => .inr s)
  have p1 : w5.cell? ⟨w.heap.size + 1, 0, none⟩ = some (.int .i64 0) := cell_of_heap (cur := [.int .i64 0, .float .f64 0]) P5.r rfl
  have p2 : w5.cell? ⟨w.heap.size + 1, 1, none⟩ = some (.float .f64 0) := cell_of_heap (cur := [.int .i64 0, .float .f64 0]) P5.r rfl
  have p3 : w5.frozen? ⟨w.heap.size + 1, 0, none⟩ = false := froz_of_heap (cur := [.int .i64 0, .float .f64 0]) P5.r
  have p4 : w5.frozen? ⟨w.heap.size + 1, 1, none⟩ = false := froz_of_heap (cur := [.int .i64 0, .float .f64 0]) P5.r
  go_region
  obtain ⟨y00, y0, y1⟩ := res2 (v0 := .int .i64 0) (v1 := .float .f64 (addN v x)) p1 p2
  go_wp2
  refine bodyPost_ret (by simp [results, Try.results33, go_sem, y00, y0, y1]; try rfl) rfl ?_
  obtain ⟨E1, E2⟩ := ap_end (.int .i64 0) (.float .f64 (addN v x)) P5 Y5 hlt hml L5.out
  exact ⟨rfl, E1, E2⟩

set_option maxHeartbeats 1000000 in
set_option maxRecDepth 100000 in
theorem apply_max (b m : Nat) (g : Lg) (key : ByteArray) (x : Nat) (id : Int) (w : World) (h : LD w b m g) (hk : hasK g.keys key = true) (hv : (valK g.keys key) < 18446744073709551616) (hx : x < 18446744073709551616) : Calls Try.prog 33 #[.pointer (some ⟨b, 0, none⟩), .agg #[.int .i64 3, .string key, .float .f64 x, .int .i64 id]] w fun e w' =>
    e = .returned (.agg #[.int .i64 0, .float .f64 (mostN (valK g.keys key) x)]) ∧ Ext (Two b m) w w' ∧ LD w' b m (setKeys g (setK g.keys key (mostN (valK g.keys key) x))) := by
  obtain ⟨a1, c1, a2, c2, r, i1, i2, f1, f2⟩ := h.ex
  have q4 : w.cell? ⟨b, 4, none⟩ = some (.map (some m)) := cell_of_heap r rfl
  have hlt := h.lt
  have hml := h.mp.lt
  have HH := Go.Lib.hid h
  clear r i1 i2 f1 f2
  have AP := Go.Lib.hid (ApW.of (w := w) (b := b) (k := 3) (key := key) (x := x) (id := id))
  have A1 : Ext Non w ((w.alloc (.cells #[.int .i64 3, .string key, .float .f64 x, .int .i64 id] 47)).alloc (.cells #[.int .i64 0, .float .f64 0] 43)) := ((Ext.refl _ _).alloc _).alloc _
  have hl : ∀ w', Ext Non w w' → (Instr.lookup 76 (.map (some m)) (.string key) true).run Try.prog w' = .ok (.tuple #[.float .f64 (valK g.keys key), .bool true]) w' := by
    intro w' y
    have := (h.mp.ext y (fun f => f)).lookup Try.underlying76 Try.underlying9 (zeroF w') key
    rw [hk] at this
    exact this
  have hl1 := hl _ (A1.drew)
  clear h hl hk
  generalize valK g.keys key = v at *
  go_enter Try.func33, Try.ntmps33
  go_wp2_with fail
  go_region
  go_wp2_with (go_at_call 67; refine (reals_Most _ _ hv hx _).mono ?_; rintro e w' ⟨rfl, rfl⟩)
  have A3 := A1.drew.drew
  obtain ⟨w5, hu, hM, hX⟩ := (HH.out.mp.ext A3 (fun f => f)).update Try.underlying76 Try.underlying9 key (mostN v x)
  have P5 := AP.out.ext (S := One m) ((((Ext.refl (One m) _).drew.drew)).trans hX) (fun s => by have s : w.heap.size = m := s; omega) (fun s => by have s : w.heap.size + 1 = m := s; omega)
  have L5 := Go.Lib.hid ((HH.out.extN A3).setMap hX hM)
  have Y5 : Ext (Two b m) w w5 := (A3.ofNon (S := Two b m)).step hX (fun k _ s => .inr s)
  have p1 : w5.cell? ⟨w.heap.size + 1, 0, none⟩ = some (.int .i64 0) := cell_of_heap (cur := [.int .i64 0, .float .f64 0]) P5.r rfl
  have p2 : w5.cell? ⟨w.heap.size + 1, 1, none⟩ = some (.float .f64 0) := cell_of_heap (cur := [.int .i64 0, .float .f64 0]) P5.r rfl
  have p3 : w5.frozen? ⟨w.heap.size + 1, 0, none⟩ = false := froz_of_heap (cur := [.int .i64 0, .float .f64 0]) P5.r
  have p4 : w5.frozen? ⟨w.heap.size + 1, 1, none⟩ = false := froz_of_heap (cur := [.int .i64 0, .float .f64 0]) P5.r
  go_region
  obtain ⟨y00, y0, y1⟩ := res2 (v0 := .int .i64 0) (v1 := .float .f64 (mostN v x)) p1 p2
  go_wp2
  refine bodyPost_ret (by simp [results, Try.results33, go_sem, y00, y0, y1]; try rfl) rfl ?_
  obtain ⟨E1, E2⟩ := ap_end (.int .i64 0) (.float .f64 (mostN v x)) P5 Y5 hlt hml L5.out
  exact ⟨rfl, E1, E2⟩

set_option maxHeartbeats 1000000 in
set_option maxRecDepth 100000 in
theorem apply_new (b m : Nat) (g : Lg) (key : ByteArray) (x : Nat) (id : Int) (w : World) (h : LD w b m g) (hk : hasK g.keys key = false) (hn : g.keys.length ≠ 16) : Calls Try.prog 33 #[.pointer (some ⟨b, 0, none⟩), .agg #[.int .i64 1, .string key, .float .f64 x, .int .i64 id]] w fun e w' =>
    e = .returned (.agg #[.int .i64 0, .float .f64 (canonN x)]) ∧ Ext (Two b m) w w' ∧ LD w' b m (setKeys g (setK g.keys key (canonN x))) := by
  obtain ⟨a1, c1, a2, c2, r, i1, i2, f1, f2⟩ := h.ex
  have q4 : w.cell? ⟨b, 4, none⟩ = some (.map (some m)) := cell_of_heap r rfl
  have hlt := h.lt
  have hml := h.mp.lt
  have HH := Go.Lib.hid h
  clear r i1 i2 f1 f2
  have AP := Go.Lib.hid (ApW.of (w := w) (b := b) (k := 1) (key := key) (x := x) (id := id))
  have A1 : Ext Non w ((w.alloc (.cells #[.int .i64 1, .string key, .float .f64 x, .int .i64 id] 47)).alloc (.cells #[.int .i64 0, .float .f64 0] 43)) := ((Ext.refl _ _).alloc _).alloc _
  have hl : ∀ w', Ext Non w w' → (Instr.lookup 76 (.map (some m)) (.string key) true).run Try.prog w' = .ok (.tuple #[.float .f64 (valK g.keys key), .bool false]) w' := by
    intro w' y
    have := (h.mp.ext y (fun f => f)).lookup Try.underlying76 Try.underlying9 (zeroF w') key
    rw [hk] at this
    exact this
  have hl1 := hl _ (A1.drew)
  have hlen := (h.mp.ext A1.drew (fun f => f)).len Try.underlying76 3
  have ht : ((g.keys.length : Int) == 16) = false := by rw [beq_eq_false_iff_ne]; omega
  clear h hl hk
  generalize valK g.keys key = v at *
  go_enter Try.func33, Try.ntmps33
  go_wp2_with fail
  go_region
  go_wp2_with (go_at_call 65; refine (reals_Canon _ _).mono ?_; rintro e w' ⟨rfl, rfl⟩)
  have A3 := A1.drew.drew
  obtain ⟨w5, hu, hM, hX⟩ := (HH.out.mp.ext A3 (fun f => f)).update Try.underlying76 Try.underlying9 key (canonN x)
  have P5 := AP.out.ext (S := One m) ((((Ext.refl (One m) _).drew.drew)).trans hX) (fun s => by have s : w.heap.size = m := s; omega) (fun s => by have s : w.heap.size + 1 = m := s; omega)
  have L5 := Go.Lib.hid ((HH.out.extN A3).setMap hX hM)
  have Y5 : Ext (Two b m) w w5 := (A3.ofNon (S := Two b m)).step hX (fun k _ s => .inr s)
  have p1 : w5.cell? ⟨w.heap.size + 1, 0, none⟩ = some (.int .i64 0) := cell_of_heap (cur := [.int .i64 0, .float .f64 0]) P5.r rfl
  have p2 : w5.cell? ⟨w.heap.size + 1, 1, none⟩ = some (.float .f64 0) := cell_of_heap (cur := [.int .i64 0, .float .f64 0]) P5.r rfl
  have p3 : w5.frozen? ⟨w.heap.size + 1, 0, none⟩ = false := froz_of_heap (cur := [.int .i64 0, .float .f64 0]) P5.r
  have p4 : w5.frozen? ⟨w.heap.size + 1, 1, none⟩ = false := froz_of_heap (cur := [.int .i64 0, .float .f64 0]) P5.r
  go_region
  obtain ⟨y00, y0, y1⟩ := res2 (v0 := .int .i64 0) (v1 := .float .f64 (canonN x)) p1 p2
  go_wp2
  refine bodyPost_ret (by simp [results, Try.results33, go_sem, y00, y0, y1]; try rfl) rfl ?_
  obtain ⟨E1, E2⟩ := ap_end (.int .i64 0) (.float .f64 (canonN x)) P5 Y5 hlt hml L5.out
  exact ⟨rfl, E1, E2⟩

set_option maxHeartbeats 1000000 in
set_option maxRecDepth 100000 in
theorem apply_cut (b m : Nat) (g : Lg) (key : ByteArray) (x : Nat) (id : Int) (w : World) (h : LD w b m g) (hk : hasK g.keys key = true) : Calls Try.prog 33 #[.pointer (some ⟨b, 0, none⟩), .agg #[.int .i64 4, .string key, .float .f64 x, .int .i64 id]] w fun e w' =>
    e = .returned (.agg #[.int .i64 0, .float .f64 (valK g.keys key)]) ∧ Ext (Two b m) w w' ∧ LD w' b m (setKeys g (delK g.keys key)) := by
  obtain ⟨a1, c1, a2, c2, r, i1, i2, f1, f2⟩ := h.ex
  have q4 : w.cell? ⟨b, 4, none⟩ = some (.map (some m)) := cell_of_heap r rfl
  have hlt := h.lt
  have hml := h.mp.lt
  have HH := Go.Lib.hid h
  clear r i1 i2 f1 f2
  have AP := Go.Lib.hid (ApW.of (w := w) (b := b) (k := 4) (key := key) (x := x) (id := id))
  have A1 : Ext Non w ((w.alloc (.cells #[.int .i64 4, .string key, .float .f64 x, .int .i64 id] 47)).alloc (.cells #[.int .i64 0, .float .f64 0] 43)) := ((Ext.refl _ _).alloc _).alloc _
  have hl : ∀ w', Ext Non w w' → (Instr.lookup 76 (.map (some m)) (.string key) true).run Try.prog w' = .ok (.tuple #[.float .f64 (valK g.keys key), .bool true]) w' := by
    intro w' y
    have := (h.mp.ext y (fun f => f)).lookup Try.underlying76 Try.underlying9 (zeroF w') key
    rw [hk] at this
    exact this
  have hl1 := hl _ (A1.drew)
  clear h hl hk
  generalize valK g.keys key = v at *
  go_enter Try.func33, Try.ntmps33
  go_wp2_with fail
  go_region
  go_wp2_with fail
  have A3 := A1.drew.drew
  obtain ⟨w5, hu, hM, hX⟩ := (HH.out.mp.ext A3 (fun f => f)).delete Try.underlying76 Try.underlying9 key 0
  have P5 := AP.out.ext (S := One m) ((((Ext.refl (One m) _).drew.drew)).trans hX) (fun s => by have s : w.heap.size = m := s; omega) (fun s => by have s : w.heap.size + 1 = m := s; omega)
  have L5 := Go.Lib.hid ((HH.out.extN A3).setMap hX hM)
  have Y5 : Ext (Two b m) w w5 := (A3.ofNon (S := Two b m)).step hX (fun k _ s => .inr s)
  have p1 : w5.cell? ⟨w.heap.size + 1, 0, none⟩ = some (.int .i64 0) := cell_of_heap (cur := [.int .i64 0, .float .f64 0]) P5.r rfl
  have p2 : w5.cell? ⟨w.heap.size + 1, 1, none⟩ = some (.float .f64 0) := cell_of_heap (cur := [.int .i64 0, .float .f64 0]) P5.r rfl
  have p3 : w5.frozen? ⟨w.heap.size + 1, 0, none⟩ = false := froz_of_heap (cur := [.int .i64 0, .float .f64 0]) P5.r
  have p4 : w5.frozen? ⟨w.heap.size + 1, 1, none⟩ = false := froz_of_heap (cur := [.int .i64 0, .float .f64 0]) P5.r
  go_region
  obtain ⟨y00, y0, y1⟩ := res2 (v0 := .int .i64 0) (v1 := .float .f64 v) p1 p2
  go_wp2
  refine bodyPost_ret (by simp [results, Try.results33, go_sem, y00, y0, y1]; try rfl) rfl ?_
  obtain ⟨E1, E2⟩ := ap_end (.int .i64 0) (.float .f64 v) P5 Y5 hlt hml L5.out
  exact ⟨rfl, E1, E2⟩

set_option maxHeartbeats 1000000 in
set_option maxRecDepth 100000 in
theorem apply_none (b m : Nat) (g : Lg) (k : Int) (key : ByteArray) (x : Nat) (id : Int) (w : World) (h : LD w b m g) (hk : hasK g.keys key = false) (hks : k = 2 ∨ k = 3 ∨ k = 4 ∨ k = 5) : Calls Try.prog 33 #[.pointer (some ⟨b, 0, none⟩), .agg #[.int .i64 k, .string key, .float .f64 x, .int .i64 id]] w fun e w' =>
    e = .returned (.agg #[.int .i64 1, .float .f64 0]) ∧ Ext Non w w' := by
  obtain ⟨a1, c1, a2, c2, r, i1, i2, f1, f2⟩ := h.ex
  have q4 : w.cell? ⟨b, 4, none⟩ = some (.map (some m)) := cell_of_heap r rfl
  have hlt := h.lt
  clear r i1 i2 f1 f2
  have A1 : Ext Non w ((w.alloc (.cells #[.int .i64 k, .string key, .float .f64 x, .int .i64 id] 47)).alloc (.cells #[.int .i64 0, .float .f64 0] 43)) := ((Ext.refl _ _).alloc _).alloc _
  have hl : ∀ w', Ext Non w w' → (Instr.lookup 76 (.map (some m)) (.string key) true).run Try.prog w' = .ok (.tuple #[.float .f64 (valK g.keys key), .bool false]) w' := by
    intro w' y
    have := (h.mp.ext y (fun f => f)).lookup Try.underlying76 Try.underlying9 (zeroF w') key
    rw [hk] at this
    exact this
  have hl1 := hl _ (A1.drew)
  clear h hl hk
  generalize valK g.keys key = v at *
  rcases hks with rfl | rfl | rfl | rfl
  all_goals
    go_enter Try.func33, Try.ntmps33
    go_wp2_with fail
    go_region
    go_wp2
    go_returns
    exact ⟨rfl, (((Ext.refl _ _).alloc _).alloc _).drew⟩

set_option maxHeartbeats 1000000 in
set_option maxRecDepth 100000 in
theorem apply_full (b m : Nat) (g : Lg) (k : Int) (key : ByteArray) (x : Nat) (id : Int) (w : World) (h : LD w b m g) (hk : hasK g.keys key = false) (hks : k = 1) (hn : g.keys.length = 16) : Calls Try.prog 33 #[.pointer (some ⟨b, 0, none⟩), .agg #[.int .i64 k, .string key, .float .f64 x, .int .i64 id]] w fun e w' =>
    e = .returned (.agg #[.int .i64 2, .float .f64 0]) ∧ Ext Non w w' := by
  obtain ⟨a1, c1, a2, c2, r, i1, i2, f1, f2⟩ := h.ex
  have q4 : w.cell? ⟨b, 4, none⟩ = some (.map (some m)) := cell_of_heap r rfl
  have hlt := h.lt
  clear r i1 i2 f1 f2
  have A1 : Ext Non w ((w.alloc (.cells #[.int .i64 k, .string key, .float .f64 x, .int .i64 id] 47)).alloc (.cells #[.int .i64 0, .float .f64 0] 43)) := ((Ext.refl _ _).alloc _).alloc _
  have hl : ∀ w', Ext Non w w' → (Instr.lookup 76 (.map (some m)) (.string key) true).run Try.prog w' = .ok (.tuple #[.float .f64 (valK g.keys key), .bool false]) w' := by
    intro w' y
    have := (h.mp.ext y (fun f => f)).lookup Try.underlying76 Try.underlying9 (zeroF w') key
    rw [hk] at this
    exact this
  have hl1 := hl _ (A1.drew)
  have hlen := (h.mp.ext A1.drew (fun f => f)).len Try.underlying76 3
  rw [hn] at hlen
  clear h hl hk
  generalize valK g.keys key = v at *
  subst hks
  all_goals
    go_enter Try.func33, Try.ntmps33
    go_wp2_with fail
    go_region
    go_wp2
    go_returns
    exact ⟨rfl, (((Ext.refl _ _).alloc _).alloc _).drew⟩
end Go.Proofs.Ytfefeepljbfcdaa
