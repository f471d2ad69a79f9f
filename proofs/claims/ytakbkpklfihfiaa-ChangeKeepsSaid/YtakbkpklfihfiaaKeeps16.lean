/- The law ChangeKeeps: the walk. -/
import Derived.Test.YtakbkpklfihfiaaKeepsP
import Derived.Test.YtakbkpklfihfiaaAsk
import Derived.Test.YtakbkpklfihfiaaEw5
namespace Go.Proofs.Ytakbkpklfihfiaa
open Go.RowKit Go.Lib F64
set_option linter.unusedSimpArgs false
set_option linter.unusedVariables false
attribute [local go_sem] run_store_float
attribute [local go_sem low] EW.cellN EW.frozN alloc_cell_or alloc_froz_or EW.cellF EW.frozF EW.cell1 EW.froz1
attribute [local go_sem] relAt relUpon
theorem flat_get {α : Type} (f : α → List Value) (k : Nat) (hk : ∀ a, (f a).length = k) : ∀ (l : List α) (j i : Nat) (h : j < l.length), i < k → (l.flatMap f)[j * k + i]? = (f l[j])[i]?
  | a :: t, 0, i, _, hi => by
    rw [List.flatMap_cons, List.getElem?_append_left (by rw [hk]; omega), Nat.zero_mul, Nat.zero_add]; rfl
  | a :: t, j + 1, i, h, hi => by
    have e : (j + 1) * k + i = k + (j * k + i) := by rw [Nat.add_mul]; omega
    rw [List.flatMap_cons, List.getElem?_append_right (by rw [hk]; omega), hk, show (j + 1) * k + i - k = j * k + i by omega]
    exact flat_get f k hk t j i (by simpa using h) hi
theorem own_rows {α : Type} {w : World} {base : Nat} {e : TypeId} {k : Nat} {v : Value} (l : List α) (f : α → List Value) (hk : ∀ a, (f a).length = k) (h : w.ownsRow base e k v l.length (l.flatMap f)) :
    ∃ a cap, v = .slice a l.length cap ∧ l.length ≤ cap ∧ cap ≤ 9223372036854775807 ∧ ∀ j (hj : j < l.length), ∃ g, a = some ⟨g, 0, none⟩ ∧ g < w.heap.size ∧ ∀ i u, (f l[j])[i]? = some u → w.cell? ⟨g, 0 + j * k + i, none⟩ = some u := by
  rcases h.2 with ⟨rfl, hn⟩ | ⟨g, cap, cur, rfl, hb, hg, hc, hm, hs, ht⟩
  · exact ⟨none, 0, by rw [hn], by omega, by omega, fun j hj => by omega⟩
  · refine ⟨_, cap, rfl, hc, by unfold maxLen at hm; omega, fun j hj => ⟨g, rfl, (Array.getElem?_eq_some_iff.1 hg).1, fun i u hu => ?_⟩⟩
    have hi : i < k := by have := (List.getElem?_eq_some_iff.1 hu).1; rw [hk] at this; exact this
    have q := flat_get f k hk l j i hj hi
    have hlt : j * k + i < l.length * k := by
      have : (j + 1) * k ≤ l.length * k := Nat.mul_le_mul_right _ hj
      rw [Nat.add_mul] at this; omega
    rw [hu, ← ht, List.getElem?_take, if_pos (by omega), Array.getElem?_toList] at q
    have hgc : w.cell? ⟨g, j * k + i, none⟩ = cur[j * k + i]? := by simp [World.cell?, hg]
    rw [Nat.zero_add, hgc]; exact q
/-- Rows of changes with the addresses of their certificates. -/
abbrev ChR := Ch × Option Addr × Nat
def chRow (q : ChR) : List Value := q.1.cells q.2.1 q.2.2
def ChOk (w : World) (q : ChR) : Prop := Certs w q.2.1 q.2.2 q.1.certs ∧ I64 q.1.from_ ∧ I64 q.1.view ∧ I64 q.1.by_ ∧ q.1.text.size ≤ 9223372036854775807
theorem Certs.ext {S : Nat → Prop} {w w' : World} {a : Option Addr} {cap : Nat} {l : List Ct} (h : Certs w a cap l) (x : Ext S w w') (hs : ∀ k, k < w.heap.size → ¬ S k) : Certs w' a cap l := by
  have y : Ext Non w w' := x.mono (fun k hk hk2 => (hs k hk hk2).elim)
  exact h.extN y
theorem chs_of_own {w : World} {base : Nat} {e : TypeId} {v : Value} (rows : List ChR) (h : w.ownsRow base e 5 v rows.length (rows.flatMap chRow)) (hr : ∀ q ∈ rows, ChOk w q) : ∃ a cap, v = .slice a rows.length cap ∧ Chs w a cap (rows.map (·.1)) := by
  obtain ⟨a, cap, rfl, h1, h2, h3⟩ := own_rows rows chRow (fun _ => rfl) h
  refine ⟨a, cap, rfl, by simpa using h1, h2, fun j hj => ?_⟩
  have hj' : j < rows.length := by simpa using hj
  obtain ⟨g, rfl, hg, hc⟩ := h3 j hj'
  obtain ⟨k1, k2, k3, k4, k5⟩ := hr _ (List.getElem_mem hj')
  have e : chAt (rows.map (·.1)) j = rows[j].1 := by rw [chAt_get hj]; simp
  rw [e]
  exact ⟨g, 0, rows[j].2.1, rows[j].2.2, rfl, hg, fun i u hu => hc i u hu, k1, k2, k3, k4, k5⟩
theorem Ints.pre {w : World} {a : Option Addr} {cap : Nat} {xs : List Int} (h : Ints w a cap xs) (k : Nat) : Ints w a cap (xs.take k) :=
  ⟨by simp; have := h.le; omega, h.small, h.nil, fun j hj => by
    have hj' : j < xs.length := by simp at hj; omega
    obtain ⟨b, o, e, c, i⟩ := h.at_ j hj'
    exact ⟨b, o, e, by simpa using c, by simpa using i⟩⟩
/-- Certificates that stand whatever is written between two places of the heap. -/
def StabC (lo hi : Nat) (w : World) (a : Option Addr) (cap : Nat) (l : List Ct) : Prop := ∀ (S : Nat → Prop) (w' : World), Ext S w w' → (∀ k, S k → lo ≤ k ∧ k < hi) → Certs w' a cap l
theorem StabC.nil (lo hi : Nat) (w : World) : StabC lo hi w none 0 [] := fun _ _ _ _ => certs_nil _
theorem StabC.extN {lo hi : Nat} {w w' : World} {a : Option Addr} {cap : Nat} {l : List Ct} (h : StabC lo hi w a cap l) (x : Ext Non w w') : StabC lo hi w' a cap l := fun S w'' y hS => h S w'' (x.ofNon.step y (fun _ _ q => q)) hS
/-- A change that stands whatever is written into a row. -/
def StabR (v : Value) (w : World) (q : ChR) : Prop := ∀ w', Ext (Row v) w w' → ChOk w' q
theorem chS_size (ep : Int) (c : Ch) : (chS ep c).size ≤ 9223372036854775807 := by
  unfold chS
  split
  · have h := wok_ch ep c
    unfold doneS
    split
    · show (chW ep c).bs.toArray.size ≤ _
      have h1 := h.lim; have h2 := h.room
      simp; omega
    · show ([] : List UInt8).toArray.size ≤ _; simp
  · show ([] : List UInt8).toArray.size ≤ _; simp
theorem kList_length_le {ep : Int} {xs : List Int} {v : Int} {wb : Nat → Bool} {bad : List Int} {r : Req} {lies : List Ct} {Q : Nat} : ∀ i, (kList ep xs v wb bad r lies Q i).length ≤ i
  | 0 => by unfold kList; simp
  | i + 1 => by
    have := kList_length_le (ep := ep) (xs := xs) (v := v) (wb := wb) (bad := bad) (r := r) (lies := lies) (Q := Q) i
    unfold kList
    split
    · simp; omega
    · omega
theorem info_change3 : (Try.prog.info? 26).map (fun i => (i.zero, i.size, i.bytes)) = some (some (.agg #[.int .i64 0, .int .i64 0, .slice none 0 0, .int .i64 0, .string ByteArray.empty]), 5, 64) := by kernel_rfl
theorem null_nullR : nullB ⟨0, 0, ⟨0, ByteArray.empty, 0, 0⟩⟩ = true := by decide +kernel
def moC (base : Nat) (ep u : Int) (r : Req) (Q : Nat) (sl : List Sg) : Mo := ⟨fun v w => ∃ sa scap, v = .agg #[.int .i64 u, .int .i64 (4 * ep + 2), .int .i64 r.client, .int .i64 r.stamp, .int .i64 r.op.kind, .string r.op.key, .float .f64 r.op.real, .int .i64 r.op.id, .slice sa Q scap] ∧ Sigs w sa scap sl ∧ (∀ b o, sa = some ⟨b, o, none⟩ → base ≤ b), fun _ _ _ x ⟨g, c, e, h, f⟩ => ⟨g, c, e, h.extN x, f⟩⟩
def moA (base : Nat) (vs : List Value) (t : TypeId) : Mo := ⟨fun v w => ∃ g, v = .pointer (some ⟨g, 0, none⟩) ∧ base ≤ g ∧ Bx w g vs t, fun _ _ _ x ⟨g, e, l, h⟩ => ⟨g, e, l, h.extN x⟩⟩
theorem info_cert1 : (Try.prog.info? 52).map (·.size) = some 9 := by kernel_rfl
theorem info_change1 : (Try.prog.info? 26).map (·.size) = some 5 := by kernel_rfl
theorem sigs_apart {w : World} {sa : Option Addr} {scap : Nat} {sl : List Sg} {g : Nat} {t : TypeId} (h : Sigs w sa scap sl) (h2 : 2 ≤ sl.length) (hb : Bx w g ((default : Ct).cells none 0) t) : ∀ b o, sa = some ⟨b, o, none⟩ → ¬ One g b := by
  rintro b o rfl e
  unfold One at e; subst e
  have c : ∀ i, w.cell? ⟨b, i, none⟩ = ((default : Ct).cells none 0)[i]? := fun i => by simp [World.cell?, hb.h]
  obtain ⟨b0, o0, e0, -, -, k0, -⟩ := h.at_ 0 (by omega)
  obtain ⟨b1, o1, e1, -, -, k1, -⟩ := h.at_ 1 (by omega)
  injection e0 with e0; injection e0 with e0 f0; injection e1 with e1; injection e1 with e1 f1
  subst e0; subst f0; subst e1; subst f1
  rw [c] at k0 k1
  have hlt : o + 0 * 2 + 1 < 9 := (List.getElem?_eq_some_iff.1 k0).1
  have h9 : o = 0 ∨ o = 1 ∨ o = 2 ∨ o = 3 ∨ o = 4 ∨ o = 5 ∨ o = 6 ∨ o = 7 := by omega
  rcases h9 with rfl | rfl | rfl | rfl | rfl | rfl | rfl | rfl <;> simp [Ct.cells] at k0 k1
theorem sigs_apart5 {w : World} {sa : Option Addr} {scap : Nat} {sl : List Sg} {g : Nat} {t : TypeId} {m v1 z : Int} {ca : Option Addr} {n cc : Nat} {e : ByteArray} (h : Sigs w sa scap sl) (h2 : 2 ≤ sl.length) (hb : Bx w g [.int .i64 m, .int .i64 v1, .slice ca n cc, .int .i64 z, .string e] t) : ∀ b o, sa = some ⟨b, o, none⟩ → ¬ One g b := by
  rintro b o rfl e
  unfold One at e; subst e
  have c : ∀ i, w.cell? ⟨b, i, none⟩ = ([.int .i64 m, .int .i64 v1, .slice ca n cc, .int .i64 z, .string e] : List Value)[i]? := fun i => by simp [World.cell?, hb.h]
  obtain ⟨b0, o0, e0, -, -, k0, -⟩ := h.at_ 0 (by omega)
  obtain ⟨b1, o1, e1, -, -, k1, -⟩ := h.at_ 1 (by omega)
  injection e0 with e0; injection e0 with e0 f0; injection e1 with e1; injection e1 with e1 f1
  subst e0; subst f0; subst e1; subst f1
  rw [c] at k0 k1
  have hlt : o + 0 * 2 + 1 < 5 := (List.getElem?_eq_some_iff.1 k0).1
  have h9 : o = 0 ∨ o = 1 ∨ o = 2 ∨ o = 3 := by omega
  rcases h9 with rfl | rfl | rfl | rfl <;> simp at k0 k1
theorem kCert_cells {ep : Int} {xs : List Int} {Q : Nat} (hQ : Q ≤ xs.length) {u : Int} {r : Req} {sa : Option Addr} {scap : Nat} : (kCert ep xs Q u r).cells sa scap = [.int .i64 u, .int .i64 (4 * ep + 2), .int .i64 r.client, .int .i64 r.stamp, .int .i64 r.op.kind, .string r.op.key, .float .f64 r.op.real, .int .i64 r.op.id, .slice sa Q scap] := by
  unfold Ct.cells kCert
  simp only [sigsOf_len, List.length_take, Nat.min_eq_left hQ]
set_option maxHeartbeats 16000000 in
set_option maxRecDepth 100000 in
theorem walk_ChangeKeeps (ep : Int) (a : Option Addr) (cap : Nat) (xs : List Int) (v which : Int) (ba : Option Addr) (bcap : Nat) (bad : List Int) (kc ks kk : Int) (key : ByteArray) (bits kid : Int) (za : Option Addr) (zcap : Nat) (lies : List Ct)
    (hk : I64 ep ∧ I64 v ∧ I64 which ∧ ReqOk ⟨kc, ks, ⟨kk, key, bits.toNat, kid⟩⟩) (w : World) (hi : Ints w a cap xs) (hbd : Ints w ba bcap bad) (hl : Certs w za zcap lies) :
    Calls Try.prog 7 #[.agg #[.int .i64 ep, .slice a xs.length cap], .agg #[.int .i64 v, .int .i64 which, .slice ba bad.length bcap, .int .i64 kc, .int .i64 ks, .int .i64 kk, .string key, .int .u64 bits, .int .i64 kid, .slice za lies.length zcap]] w fun e w' => e = .returned (.bool true) ∧ Ext Non w w' := by
  have HX := Go.Lib.hid hi; have HB := Go.Lib.hid hbd; have HL := Go.Lib.hid hl; have HK := Go.Lib.hid hk
  have s1 := hi.small; have s2 := hi.le; have s3 := hl.small; have s4 := hl.le; have s5 := hbd.small; have s6 := hbd.le
  clear hi hbd hl hk
  go_enter Try.func7, Try.ntmps7
  go_wp2_with fail
  refine Calls.ew (law16_lives _) ?_
  rintro e x1 rfl
  go_wp2_with fail
  refine Calls.ew (law11_Request kc ks kk key bits kid _) ?_
  rintro e x2 rfl
  generalize bits.toNat = real at *
  go_wp2_with fail
  refine Calls.ew (council_Right ep a cap xs _ (HX.out.extN (by (repeat (first | with_reducible exact Ext.refl _ _ | assumption | with_reducible refine Ext.upN ?_ | with_reducible refine Ext.alloc ?_ _ | with_reducible refine Ext.upA (by assumption) ?_ | with_reducible refine Ext.upW ?_ | with_reducible refine Ext.drew ?_ | with_reducible refine Ext.drewN ?_ _ | with_reducible refine Ext.upF ?_ | with_reducible refine Ext.upFF (by first | omega | simp) ?_ | with_reducible refine Ext.setCellsF _ _ _ (by first | omega | simp) ?_ | with_reducible refine Ext.setCellF _ _ _ (by first | omega | simp) ?_ | with_reducible refine Ext.upFN (by first | omega | simp) ?_ | with_reducible refine Ext.up1F (by first | omega | simp) ?_ | with_reducible refine Ext.up1N (by first | omega | simp) ?_ | with_reducible refine Ext.setCell ?_ (.inr (by first | omega | simp)) _ | refine Ext.alloc ?_ _ | refine Ext.setCellF _ _ _ (by first | omega | simp) ?_ | refine Ext.setCell ?_ (.inr (by first | omega | simp)) _))))) ?_
  rintro e x3 rfl
  cases hc : confB ep xs
  · as_aux_lemma =>
    clear hc
    go_wp2
    go_ret
    exact ⟨rfl, by (repeat (first | with_reducible exact Ext.refl _ _ | assumption | with_reducible refine Ext.upN ?_ | with_reducible refine Ext.alloc ?_ _ | with_reducible refine Ext.upA (by assumption) ?_ | with_reducible refine Ext.upW ?_ | with_reducible refine Ext.drew ?_ | with_reducible refine Ext.drewN ?_ _ | with_reducible refine Ext.upF ?_ | with_reducible refine Ext.upFF (by first | omega | simp) ?_ | with_reducible refine Ext.setCellsF _ _ _ (by first | omega | simp) ?_ | with_reducible refine Ext.setCellF _ _ _ (by first | omega | simp) ?_ | with_reducible refine Ext.upFN (by first | omega | simp) ?_ | with_reducible refine Ext.up1F (by first | omega | simp) ?_ | with_reducible refine Ext.up1N (by first | omega | simp) ?_ | with_reducible refine Ext.setCell ?_ (.inr (by first | omega | simp)) _ | refine Ext.alloc ?_ _ | refine Ext.setCellF _ _ _ (by first | omega | simp) ?_ | refine Ext.setCell ?_ (.inr (by first | omega | simp)) _))⟩
  have HC := Go.Lib.hid hc
  clear hc
  go_wp2_with fail
  refine Calls.ew (ref_Right kc ks kk key real kid _) ?_
  rintro e x4 rfl
  cases hr : rightB ⟨kc, ks, ⟨kk, key, real, kid⟩⟩
  · as_aux_lemma =>
    clear hr
    go_wp2
    go_ret
    exact ⟨rfl, by (repeat (first | with_reducible exact Ext.refl _ _ | assumption | with_reducible refine Ext.upN ?_ | with_reducible refine Ext.alloc ?_ _ | with_reducible refine Ext.upA (by assumption) ?_ | with_reducible refine Ext.upW ?_ | with_reducible refine Ext.drew ?_ | with_reducible refine Ext.drewN ?_ _ | with_reducible refine Ext.upF ?_ | with_reducible refine Ext.upFF (by first | omega | simp) ?_ | with_reducible refine Ext.setCellsF _ _ _ (by first | omega | simp) ?_ | with_reducible refine Ext.setCellF _ _ _ (by first | omega | simp) ?_ | with_reducible refine Ext.upFN (by first | omega | simp) ?_ | with_reducible refine Ext.up1F (by first | omega | simp) ?_ | with_reducible refine Ext.up1N (by first | omega | simp) ?_ | with_reducible refine Ext.setCell ?_ (.inr (by first | omega | simp)) _ | refine Ext.alloc ?_ _ | refine Ext.setCellF _ _ _ (by first | omega | simp) ?_ | refine Ext.setCell ?_ (.inr (by first | omega | simp)) _))⟩
  have HR := Go.Lib.hid hr
  clear hr
  by_cases hv0 : v < 0
  · as_aux_lemma =>
    go_wp2
    go_ret
    exact ⟨rfl, by (repeat (first | with_reducible exact Ext.refl _ _ | assumption | with_reducible refine Ext.upN ?_ | with_reducible refine Ext.alloc ?_ _ | with_reducible refine Ext.upA (by assumption) ?_ | with_reducible refine Ext.upW ?_ | with_reducible refine Ext.drew ?_ | with_reducible refine Ext.drewN ?_ _ | with_reducible refine Ext.upF ?_ | with_reducible refine Ext.upFF (by first | omega | simp) ?_ | with_reducible refine Ext.setCellsF _ _ _ (by first | omega | simp) ?_ | with_reducible refine Ext.setCellF _ _ _ (by first | omega | simp) ?_ | with_reducible refine Ext.upFN (by first | omega | simp) ?_ | with_reducible refine Ext.up1F (by first | omega | simp) ?_ | with_reducible refine Ext.up1N (by first | omega | simp) ?_ | with_reducible refine Ext.setCell ?_ (.inr (by first | omega | simp)) _ | refine Ext.alloc ?_ _ | refine Ext.setCellF _ _ _ (by first | omega | simp) ?_ | refine Ext.setCell ?_ (.inr (by first | omega | simp)) _))⟩
  by_cases hv1 : 15 ≤ v
  · as_aux_lemma =>
    go_wp2
    go_ret
    exact ⟨rfl, by (repeat (first | with_reducible exact Ext.refl _ _ | assumption | with_reducible refine Ext.upN ?_ | with_reducible refine Ext.alloc ?_ _ | with_reducible refine Ext.upA (by assumption) ?_ | with_reducible refine Ext.upW ?_ | with_reducible refine Ext.drew ?_ | with_reducible refine Ext.drewN ?_ _ | with_reducible refine Ext.upF ?_ | with_reducible refine Ext.upFF (by first | omega | simp) ?_ | with_reducible refine Ext.setCellsF _ _ _ (by first | omega | simp) ?_ | with_reducible refine Ext.setCellF _ _ _ (by first | omega | simp) ?_ | with_reducible refine Ext.upFN (by first | omega | simp) ?_ | with_reducible refine Ext.up1F (by first | omega | simp) ?_ | with_reducible refine Ext.up1N (by first | omega | simp) ?_ | with_reducible refine Ext.setCell ?_ (.inr (by first | omega | simp)) _ | refine Ext.alloc ?_ _ | refine Ext.setCellF _ _ _ (by first | omega | simp) ?_ | refine Ext.setCell ?_ (.inr (by first | omega | simp)) _))⟩
  have hep := conf_ep HC.out
  obtain ⟨he0, he1⟩ := hep
  have hm4 : 4 ≤ xs.length ∧ xs.length ≤ 10 := by
    have h := HC.out; unfold confB at h; simp only [Bool.and_eq_true] at h
    exact ⟨(members_facts h.2).2.2.1, (members_facts h.2).2.2.2⟩
  obtain ⟨hm4, hm10⟩ := hm4
  have hv0' : 0 ≤ v := by omega
  have hv1' : v < 15 := by omega
  clear hv0 hv1
  go_wp2_with fail
  go_loopw [6, 7] (fun bv iv wr => ∃ (i : Nat) (z : EW Non x4.on), i ≤ xs.length ∧ bv = .int .i64 (kBad xs bad i : Nat) ∧ iv = .int .i64 i ∧ wr = z.on) (fun _ iv _ => xs.length - (intOf iv).toNat)
  case atStart => exact ⟨0, ⟨_, by (repeat (first | with_reducible exact Ext.refl _ _ | assumption | with_reducible refine Ext.upN ?_ | with_reducible refine Ext.alloc ?_ _ | with_reducible refine Ext.upA (by assumption) ?_ | with_reducible refine Ext.upW ?_ | with_reducible refine Ext.drew ?_ | with_reducible refine Ext.drewN ?_ _ | with_reducible refine Ext.upF ?_ | with_reducible refine Ext.upFF (by first | omega | simp) ?_ | with_reducible refine Ext.setCellsF _ _ _ (by first | omega | simp) ?_ | with_reducible refine Ext.setCellF _ _ _ (by first | omega | simp) ?_ | with_reducible refine Ext.upFN (by first | omega | simp) ?_ | with_reducible refine Ext.up1F (by first | omega | simp) ?_ | with_reducible refine Ext.up1N (by first | omega | simp) ?_ | with_reducible refine Ext.setCell ?_ (.inr (by first | omega | simp)) _ | refine Ext.alloc ?_ _ | refine Ext.setCellF _ _ _ (by first | omega | simp) ?_ | refine Ext.setCell ?_ (.inr (by first | omega | simp)) _))⟩, Nat.zero_le _, rfl, rfl, rfl⟩
  case round =>
    obtain ⟨i, z, hi, rfl, rfl, rfl⟩ := hrel
    have hkb := kBad_le xs bad i
    by_cases hlt : i < xs.length
    · obtain ⟨mb, mo, rfl, hc0, hc1⟩ := HX.out.at_ i hlt
      have HS : Hid (kBad xs bad (i + 1) = if hasB bad xs[i] = true then kBad xs bad i + 1 else kBad xs bad i) := Go.Lib.hid (by
        show (if hasB bad (xs.getD i 0) = true then kBad xs bad i + 1 else kBad xs bad i) = _
        rw [List.getD_eq_getElem?_getD, List.getElem?_eq_getElem hlt]; rfl)
      generalize xs[i] = m at *
      generalize kBad xs bad i = kb at *
      clear hc1
      go_upto_region 10 with fail
      (refine wp_region_ext_lit (by kernel_rfl) (by kernel_rfl) ?_; (repeat (go_big_quiet_step ((go_at_call 26; exact Calls.ext_drew (ref_Has ba bcap bad m _ (HB.out.extN (by (repeat (first | with_reducible exact Ext.refl _ _ | assumption | with_reducible refine Ext.upN ?_ | with_reducible refine Ext.alloc ?_ _ | with_reducible refine Ext.upA (by assumption) ?_ | with_reducible refine Ext.upW ?_ | with_reducible refine Ext.drew ?_ | with_reducible refine Ext.drewN ?_ _ | with_reducible refine Ext.upF ?_ | with_reducible refine Ext.upFF (by first | omega | simp) ?_ | with_reducible refine Ext.setCellsF _ _ _ (by first | omega | simp) ?_ | with_reducible refine Ext.setCellF _ _ _ (by first | omega | simp) ?_ | with_reducible refine Ext.upFN (by first | omega | simp) ?_ | with_reducible refine Ext.up1F (by first | omega | simp) ?_ | with_reducible refine Ext.up1N (by first | omega | simp) ?_ | with_reducible refine Ext.setCell ?_ (.inr (by first | omega | simp)) _ | refine Ext.alloc ?_ _ | refine Ext.setCellF _ _ _ (by first | omega | simp) ?_ | refine Ext.setCell ?_ (.inr (by first | omega | simp)) _))))))))); refine wpQuiet_nil ?_; intro _ hw'; obtain ⟨xq, hw''⟩ := hw'; subst hw'')
      cases hh : hasB bad m
      · have HH := Go.Lib.hid hh; clear hh
        go_wp2_with fail
        go_roundw
        case rel => exact ⟨i + 1, ⟨_, by (repeat (first | with_reducible exact Ext.refl _ _ | assumption | with_reducible refine Ext.upN ?_ | with_reducible refine Ext.alloc ?_ _ | with_reducible refine Ext.upA (by assumption) ?_ | with_reducible refine Ext.upW ?_ | with_reducible refine Ext.drew ?_ | with_reducible refine Ext.drewN ?_ _ | with_reducible refine Ext.upF ?_ | with_reducible refine Ext.upFF (by first | omega | simp) ?_ | with_reducible refine Ext.setCellsF _ _ _ (by first | omega | simp) ?_ | with_reducible refine Ext.setCellF _ _ _ (by first | omega | simp) ?_ | with_reducible refine Ext.upFN (by first | omega | simp) ?_ | with_reducible refine Ext.up1F (by first | omega | simp) ?_ | with_reducible refine Ext.up1N (by first | omega | simp) ?_ | with_reducible refine Ext.setCell ?_ (.inr (by first | omega | simp)) _ | refine Ext.alloc ?_ _ | refine Ext.setCellF _ _ _ (by first | omega | simp) ?_ | refine Ext.setCell ?_ (.inr (by first | omega | simp)) _))⟩, hlt, by rw [HS.out, HH.out]; rfl, by go_num, rfl⟩
        case measure => simp [intOf]; omega
      · have HH := Go.Lib.hid hh; clear hh
        go_wp2_with fail
        go_roundw
        case rel => exact ⟨i + 1, ⟨_, by (repeat (first | with_reducible exact Ext.refl _ _ | assumption | with_reducible refine Ext.upN ?_ | with_reducible refine Ext.alloc ?_ _ | with_reducible refine Ext.upA (by assumption) ?_ | with_reducible refine Ext.upW ?_ | with_reducible refine Ext.drew ?_ | with_reducible refine Ext.drewN ?_ _ | with_reducible refine Ext.upF ?_ | with_reducible refine Ext.upFF (by first | omega | simp) ?_ | with_reducible refine Ext.setCellsF _ _ _ (by first | omega | simp) ?_ | with_reducible refine Ext.setCellF _ _ _ (by first | omega | simp) ?_ | with_reducible refine Ext.upFN (by first | omega | simp) ?_ | with_reducible refine Ext.up1F (by first | omega | simp) ?_ | with_reducible refine Ext.up1N (by first | omega | simp) ?_ | with_reducible refine Ext.setCell ?_ (.inr (by first | omega | simp)) _ | refine Ext.alloc ?_ _ | refine Ext.setCellF _ _ _ (by first | omega | simp) ?_ | refine Ext.setCell ?_ (.inr (by first | omega | simp)) _))⟩, hlt, by rw [HS.out, HH.out]; go_num, by go_num, rfl⟩
        case measure => simp [intOf]; omega
    · obtain rfl : i = xs.length := by omega
      generalize hkbn : kBad xs bad xs.length = kb at *
      have HKB := Go.Lib.hid hkbn; clear hkbn
      go_wp2_with fail
      refine (council_Faults (xs.length : Int) (by omega) (by omega) _).mono ?_
      rintro e _ ⟨rfl, rfl⟩
      obtain ⟨F, hF⟩ : ∃ F : Nat, faultsI xs.length = F := ⟨(faultsI xs.length).toNat, by unfold faultsI; split <;> omega⟩
      have HF := Go.Lib.hid hF
      rw [hF]
      clear hF
      by_cases hbf : F < kb
      · as_aux_lemma =>
        go_wp2
        go_ret
        exact ⟨rfl, by (repeat (first | with_reducible exact Ext.refl _ _ | assumption | with_reducible refine Ext.upN ?_ | with_reducible refine Ext.alloc ?_ _ | with_reducible refine Ext.upA (by assumption) ?_ | with_reducible refine Ext.upW ?_ | with_reducible refine Ext.drew ?_ | with_reducible refine Ext.drewN ?_ _ | with_reducible refine Ext.upF ?_ | with_reducible refine Ext.upFF (by first | omega | simp) ?_ | with_reducible refine Ext.setCellsF _ _ _ (by first | omega | simp) ?_ | with_reducible refine Ext.setCellF _ _ _ (by first | omega | simp) ?_ | with_reducible refine Ext.upFN (by first | omega | simp) ?_ | with_reducible refine Ext.up1F (by first | omega | simp) ?_ | with_reducible refine Ext.up1N (by first | omega | simp) ?_ | with_reducible refine Ext.setCell ?_ (.inr (by first | omega | simp)) _ | refine Ext.alloc ?_ _ | refine Ext.setCellF _ _ _ (by first | omega | simp) ?_ | refine Ext.setCell ?_ (.inr (by first | omega | simp)) _))⟩
      go_wp2_with fail
      refine (council_Quorum (xs.length : Int) (by omega) (by omega) _).mono ?_
      rintro e _ ⟨rfl, rfl⟩
      obtain ⟨Q, hQ⟩ : ∃ Q : Nat, quorumI xs.length = Q := ⟨(quorumI xs.length).toNat, by unfold quorumI faultsI; rw [if_neg (by omega), if_neg (by omega)]; omega⟩
      have HQ := Go.Lib.hid hQ
      obtain ⟨hQn, hQ0, hQ2⟩ := quorum_facts hm4 hm10 hQ
      rw [hQ]
      have hQ3 : 2 ≤ Q := by have := hQ2; rw [HF.out] at this; omega
      clear hQ hQ2
      have LAW : Hid (∀ wb, (checkE ep xs (v + 1) (kList ep xs v wb bad ⟨kc, ks, ⟨kk, key, real, kid⟩⟩ lies Q xs.length) = 0 ∧ pickR ep (kList ep xs v wb bad ⟨kc, ks, ⟨kk, key, real, kid⟩⟩ lies Q xs.length) = [nullR, ⟨kc, ks, ⟨kk, key, real, kid⟩⟩]) ∨
        (checkE ep xs (v + 1) (kList ep xs v wb bad ⟨kc, ks, ⟨kk, key, real, kid⟩⟩ lies Q xs.length) = 1 ∧ lies ≠ [])) := Go.Lib.hid (fun wb => keeps_law HC.out HQ.out ⟨hv0', hv1'⟩ HR.out (by rw [HKB.out, HF.out]; omega))
      have KC : Hid (∀ (w' : World) (u c s k : Int) (key : ByteArray) (x : Nat) (id : Int), Ints w' a cap xs → I64 u → ReqOk ⟨c, s, ⟨k, key, x, id⟩⟩ → Calls Try.prog 29 #[.int .i64 ep, .int .i64 u, .int .i64 (4 * ep + 2), .agg #[.int .i64 c, .int .i64 s, .int .i64 k, .string key, .float .f64 x, .int .i64 id], .slice a Q cap] w' fun e w'' =>
          ∃ sa scap, e = .returned (.agg #[.int .i64 u, .int .i64 (4 * ep + 2), .int .i64 c, .int .i64 s, .int .i64 k, .string key, .float .f64 x, .int .i64 id, .slice sa Q scap]) ∧ Sigs w'' sa scap (sigsOf (xs.take Q) (prepS ep u (4 * ep + 2) ⟨c, s, ⟨k, key, x, id⟩⟩)) ∧ Ext Non w' w'' ∧ (∀ b o, sa = some ⟨b, o, none⟩ → w'.heap.size ≤ b)) := Go.Lib.hid (fun w' u c s k key x id h1 h2 h3 => by
        have hlq : (xs.take Q).length = Q := by simp; omega
        have := law16_certF ep u (4 * ep + 2) c s k key x id HK.out.1 h2 (by unfold I64; omega) h3 a cap (xs.take Q) (by omega) w' (h1.pre Q)
        unfold Ct.cells at this
        simp only [sigsOf_len, hlq] at this
        exact this)
      have hw4 : IntKind.i64.wrap (4 * ep) = 4 * ep := IntWalk.i64_in _ (by omega)
      have hw5 : IntKind.i64.wrap (4 * ep + 2) = 4 * ep + 2 := IntWalk.i64_in _ (by omega)
      have hQc : Q ≤ cap := by omega
      go_upto_region 16 with fail
      apply wp_region_rel_tail 12 (relR [Mo.is _, Mo.is _, Mo.is _, Mo.is _, Mo.is _, Mo.is _, Mo.is _, Mo.is _, Mo.is _, Mo.is _, moC z.on.heap.size ep v ⟨kc, ks, ⟨kk, key, real, kid⟩⟩ Q (sigsOf (xs.take Q) (prepS ep v (4 * ep + 2) ⟨kc, ks, ⟨kk, key, real, kid⟩⟩)), moA z.on.heap.size ((default : Ct).cells none 0) 52]) (by kernel_rfl) (by kernel_rfl) (by kernel_rfl) (by kernel_rfl) (by kernel_rfl) (by decide) (by kernel_rfl) (relR_mono _) (StepD.all ?st1) ?q1
      case st1 =>
        refine ⟨?_, ?_, ?_, ?_, ?_, ?_, ?_, ?_, ?_, ?_, ?_, ?_, trivial⟩
        · intro a' w' hx hs hd
          obtain ⟨y, rfl⟩ := hx.ew
          have e2 : a'.tmps[2]?.getD undef = _ := hs 2 rfl
          simp only [List.getElem?_toArray, List.getElem?_cons_succ, List.getElem?_cons_zero, Option.getD_some, Array.getElem?_eq_some_iff] at e2
          refine .inl ⟨rfl, ?_⟩
          clear hs hd hx
          go_simp
          exact ⟨Ext.refl _ _, rfl⟩
        · intro a' w' hx hs hd
          obtain ⟨y, rfl⟩ := hx.ew
          have e72 : a'.tmps[72]?.getD undef = _ := hd 0 72 rfl rfl
          refine .inl ⟨rfl, ?_⟩
          clear hs hd hx
          go_simp
          exact ⟨Ext.refl _ _, rfl⟩
        · intro a' w' hx hs hd
          obtain ⟨y, rfl⟩ := hx.ew
          have e3 : a'.tmps[3]?.getD undef = _ := hs 3 rfl
          simp only [List.getElem?_toArray, List.getElem?_cons_succ, List.getElem?_cons_zero, Option.getD_some, Array.getElem?_eq_some_iff] at e3
          refine .inl ⟨rfl, ?_⟩
          clear hs hd hx
          go_simp
          exact ⟨Ext.refl _ _, rfl⟩
        · intro a' w' hx hs hd
          obtain ⟨y, rfl⟩ := hx.ew
          have e74 : a'.tmps[74]?.getD undef = _ := hd 2 74 rfl rfl
          refine .inl ⟨rfl, ?_⟩
          clear hs hd hx
          go_simp
          exact ⟨Ext.refl _ _, rfl⟩
        · intro a' w' hx hs hd
          obtain ⟨y, rfl⟩ := hx.ew
          have e9 : a'.tmps[9]?.getD undef = _ := hs 9 rfl
          simp only [List.getElem?_toArray, List.getElem?_cons_succ, List.getElem?_cons_zero, Option.getD_some, Array.getElem?_eq_some_iff] at e9
          refine .inl ⟨rfl, ?_⟩
          clear hs hd hx
          go_simp
          exact ⟨Ext.refl _ _, rfl⟩
        · intro a' w' hx hs hd
          obtain ⟨y, rfl⟩ := hx.ew
          have e5 : a'.tmps[5]?.getD undef = _ := hs 5 rfl
          simp only [List.getElem?_toArray, List.getElem?_cons_succ, List.getElem?_cons_zero, Option.getD_some, Array.getElem?_eq_some_iff] at e5
          refine .inl ⟨rfl, ?_⟩
          clear hs hd hx
          go_simp
          exact ⟨Ext.refl _ _, rfl⟩
        · intro a' w' hx hs hd
          obtain ⟨y, rfl⟩ := hx.ew
          have e2 : a'.tmps[2]?.getD undef = _ := hs 2 rfl
          simp only [List.getElem?_toArray, List.getElem?_cons_succ, List.getElem?_cons_zero, Option.getD_some, Array.getElem?_eq_some_iff] at e2
          refine .inl ⟨rfl, ?_⟩
          clear hs hd hx
          go_simp
          exact ⟨Ext.refl _ _, rfl⟩
        · intro a' w' hx hs hd
          obtain ⟨y, rfl⟩ := hx.ew
          have e78 : a'.tmps[78]?.getD undef = _ := hd 6 78 rfl rfl
          refine .inl ⟨rfl, ?_⟩
          clear hs hd hx
          go_simp
          exact ⟨Ext.refl _ _, rfl⟩
        · intro a' w' hx hs hd
          obtain ⟨y, rfl⟩ := hx.ew
          have e8 : a'.tmps[8]?.getD undef = _ := hs 8 rfl
          simp only [List.getElem?_toArray, List.getElem?_cons_succ, List.getElem?_cons_zero, Option.getD_some, Array.getElem?_eq_some_iff] at e8
          refine .inl ⟨rfl, ?_⟩
          clear hs hd hx
          go_simp
          exact ⟨Ext.refl _ _, rfl⟩
        · intro a' w' hx hs hd
          obtain ⟨y, rfl⟩ := hx.ew
          have e79 : a'.tmps[79]?.getD undef = _ := hd 7 79 rfl rfl
          have e80 : a'.tmps[80]?.getD undef = _ := hd 8 80 rfl rfl
          refine .inl ⟨rfl, ?_⟩
          clear hs hd hx
          go_simp
          exact ⟨Ext.refl _ _, rfl⟩
        · intro a' w' hx hs hd
          obtain ⟨y, rfl⟩ := hx.ew
          have e73 : a'.tmps[73]?.getD undef = _ := hd 1 73 rfl rfl
          have e75 : a'.tmps[75]?.getD undef = _ := hd 3 75 rfl rfl
          have e76 : a'.tmps[76]?.getD undef = _ := hd 4 76 rfl rfl
          have e77 : a'.tmps[77]?.getD undef = _ := hd 5 77 rfl rfl
          have e81 : a'.tmps[81]?.getD undef = _ := hd 9 81 rfl rfl
          refine .inl ⟨rfl, ?_⟩
          clear hs hd hx
          go_simp
          exact (KC.out _ v kc ks kk key real kid (HX.out.extN (by (repeat (first | with_reducible exact Ext.refl _ _ | assumption | with_reducible refine Ext.upN ?_ | with_reducible refine Ext.alloc ?_ _ | with_reducible refine Ext.upA (by assumption) ?_ | with_reducible refine Ext.upW ?_ | with_reducible refine Ext.drew ?_ | with_reducible refine Ext.drewN ?_ _ | with_reducible refine Ext.upF ?_ | with_reducible refine Ext.upFF (by first | omega | simp) ?_ | with_reducible refine Ext.setCellsF _ _ _ (by first | omega | simp) ?_ | with_reducible refine Ext.setCellF _ _ _ (by first | omega | simp) ?_ | with_reducible refine Ext.upFN (by first | omega | simp) ?_ | with_reducible refine Ext.up1F (by first | omega | simp) ?_ | with_reducible refine Ext.up1N (by first | omega | simp) ?_ | with_reducible refine Ext.setCell ?_ (.inr (by first | omega | simp)) _ | refine Ext.alloc ?_ _ | refine Ext.setCellF _ _ _ (by first | omega | simp) ?_ | refine Ext.setCell ?_ (.inr (by first | omega | simp)) _)))) HK.out.2.1 HK.out.2.2.2).mono (fun e w'' ⟨ra, rc, he, hR, hx, hf⟩ => ⟨_, he, hx, ra, rc, rfl, hR, fun b o q => Nat.le_trans y.ext.size (hf b o q)⟩)
        · intro a' w' hx hs hd
          obtain ⟨y, rfl⟩ := hx.ew
          refine .inl ⟨rfl, ?_⟩
          clear hs hd hx
          go_simp
          exact ⟨(Ext.refl _ _).alloc _, _, rfl, y.ext.size, Bx.newAt _ _ _ _ rfl⟩
      case' q1 =>
        intro vs w' hx hRR
        obtain ⟨x5, rfl⟩ := hx.ew
        have q0 : vs 0 = _ := hRR 0 (by decide)
        have q1 : vs 1 = _ := hRR 1 (by decide)
        have q2 : vs 2 = _ := hRR 2 (by decide)
        have q3 : vs 3 = _ := hRR 3 (by decide)
        have q4 : vs 4 = _ := hRR 4 (by decide)
        have q5 : vs 5 = _ := hRR 5 (by decide)
        have q6 : vs 6 = _ := hRR 6 (by decide)
        have q7 : vs 7 = _ := hRR 7 (by decide)
        have q8 : vs 8 = _ := hRR 8 (by decide)
        have q9 : vs 9 = _ := hRR 9 (by decide)
        obtain ⟨sa, scap, q10, hS, -⟩ : ∃ sa scap, vs 10 = .agg #[.int .i64 v, .int .i64 (4 * ep + 2), .int .i64 kc, .int .i64 ks, .int .i64 kk, .string key, .float .f64 real, .int .i64 kid, .slice sa Q scap] ∧ Sigs x5.on sa scap (sigsOf (xs.take Q) (prepS ep v (4 * ep + 2) ⟨kc, ks, ⟨kk, key, real, kid⟩⟩)) ∧ (∀ b o, sa = some ⟨b, o, none⟩ → z.on.heap.size ≤ b) := hRR 10 (by decide)
        obtain ⟨g10, q11, hg10, hB10⟩ : ∃ g, vs 11 = .pointer (some ⟨g, 0, none⟩) ∧ z.on.heap.size ≤ g ∧ Bx x5.on g ((default : Ct).cells none 0) 52 := hRR 11 (by decide)
        clear hRR hx
        simp only [putAll, List.take_succ_cons, List.take_zero, List.drop_succ_cons, List.drop_zero, Act.put, List.setIfInBounds_toArray, List.set_cons_zero, List.set_cons_succ, Nat.reduceAdd, Nat.zero_add]
        simp only [q0, q1, q2, q3, q4, q5, q6, q7, q8, q9, q10, q11]
        clear q0 q1 q2 q3 q4 q5 q6 q7 q8 q9 q10 q11 vs
      have HS10 := Go.Lib.hid hS; have HB10 := Go.Lib.hid hB10
      clear hS hB10
      have hz10 : z.on.heap.size ≤ g10 := hg10
      go_wp2_with (refine wpList_store_box rfl 52 _ _ rfl g10 _ [.int .i64 v, .int .i64 (4 * ep + 2), .int .i64 kc, .int .i64 ks, .int .i64 kk, .string key, .float .f64 real, .int .i64 kid, .slice sa Q scap] _ rfl rfl HB10.out rfl info_cert1 (by simp [Value.oneCell']) (fun W hB => ?_); have BZ := Go.Lib.hid hB; clear hB)
      have HSW := Go.Lib.hid (HS10.out.ext W.ext (sigs_apart HS10.out (by rw [sigsOf_len, List.length_take]; omega) HB10.out))
      obtain ⟨x6, hx6⟩ := (by (repeat (first | with_reducible exact Ext.refl _ _ | assumption | with_reducible refine Ext.upN ?_ | with_reducible refine Ext.alloc ?_ _ | with_reducible refine Ext.upA (by assumption) ?_ | with_reducible refine Ext.upW ?_ | with_reducible refine Ext.drew ?_ | with_reducible refine Ext.drewN ?_ _ | with_reducible refine Ext.upF ?_ | with_reducible refine Ext.upFF (by first | omega | simp) ?_ | with_reducible refine Ext.setCellsF _ _ _ (by first | omega | simp) ?_ | with_reducible refine Ext.setCellF _ _ _ (by first | omega | simp) ?_ | with_reducible refine Ext.upFN (by first | omega | simp) ?_ | with_reducible refine Ext.up1F (by first | omega | simp) ?_ | with_reducible refine Ext.up1N (by first | omega | simp) ?_ | with_reducible refine Ext.setCell ?_ (.inr (by first | omega | simp)) _ | refine Ext.alloc ?_ _ | refine Ext.setCellF _ _ _ (by first | omega | simp) ?_ | refine Ext.setCell ?_ (.inr (by first | omega | simp)) _)) : Ext Non z.on W.on).ew
      rw [hx6] at BZ HSW ⊢
      clear hx6 HS10 HB10
      have ROW0 : Hid (x6.on.ownsRow x6.on.heap.size 26 5 (.slice none 0 0) 0 []) := Go.Lib.hid (World.ownsRow_nil _ _ _ _)
      obtain ⟨wb, hwb⟩ : ∃ wb : Nat → Bool, ∀ i, wb i = decide ((IntKind.u64.wrap which / 2 ^ i).tmod 2 = 1) := ⟨_, fun _ => rfl⟩
      have HWB := Go.Lib.hid hwb
      clear hwb
      go_loopg [11, 12] xs.length (fun g lv iv wr => ∃ (i : Nat) (rows : List ChR) (la : Option Addr) (lc : Nat) (z2 : EW Non x6.on), i ≤ xs.length ∧ g = xs.length - i ∧ lv = .slice la rows.length lc ∧ iv = .int .i64 i ∧ wr = z2.on ∧ Hid (wr.ownsRow x6.on.heap.size 26 5 (.slice la rows.length lc) rows.length (rows.flatMap chRow)) ∧ Hid (rows.map (·.1) = kList ep xs v wb bad ⟨kc, ks, ⟨kk, key, real, kid⟩⟩ lies Q i) ∧ Hid (∀ q ∈ rows, StabR (.slice la rows.length lc) wr q))
      case atStart => exact ⟨0, [], none, 0, ⟨_, by (repeat (first | with_reducible exact Ext.refl _ _ | assumption | with_reducible refine Ext.upN ?_ | with_reducible refine Ext.alloc ?_ _ | with_reducible refine Ext.upA (by assumption) ?_ | with_reducible refine Ext.upW ?_ | with_reducible refine Ext.drew ?_ | with_reducible refine Ext.drewN ?_ _ | with_reducible refine Ext.upF ?_ | with_reducible refine Ext.upFF (by first | omega | simp) ?_ | with_reducible refine Ext.setCellsF _ _ _ (by first | omega | simp) ?_ | with_reducible refine Ext.setCellF _ _ _ (by first | omega | simp) ?_ | with_reducible refine Ext.upFN (by first | omega | simp) ?_ | with_reducible refine Ext.up1F (by first | omega | simp) ?_ | with_reducible refine Ext.up1N (by first | omega | simp) ?_ | with_reducible refine Ext.setCell ?_ (.inr (by first | omega | simp)) _ | refine Ext.alloc ?_ _ | refine Ext.setCellF _ _ _ (by first | omega | simp) ?_ | refine Ext.setCell ?_ (.inr (by first | omega | simp)) _))⟩, Nat.zero_le _, rfl, rfl, rfl, rfl, ROW0, Go.Lib.hid rfl, Go.Lib.hid (fun q hq => (List.not_mem_nil hq).elim)⟩
      case round =>
        clear ROW0
        obtain ⟨i, rows, la, lc, z2, hi, hg, rfl, rfl, rfl, HO, HM, HA⟩ := hrel
        have HG := Go.Lib.hid hg; clear hg
        by_cases hlt : i < xs.length
        ·
          --D[
          obtain ⟨mb, mo, rfl, hc0, hc1⟩ := HX.out.at_ i hlt
          have HXI : Hid (xs[i] = xs.getD i 0) := Go.Lib.hid (by rw [List.getD_eq_getElem?_getD, List.getElem?_eq_getElem hlt]; rfl)
          generalize xs[i] = m at *
          have hw6 : IntKind.i64.wrap (v + 1) = v + 1 := IntWalk.i64_in _ (by omega)
          go_upto_region 21 with fail
          apply wp_region_rel_tail 10 (relR [Mo.is _, Mo.is _, Mo.is _, Mo.is _, Mo.is _, Mo.is _, Mo.is _, Mo.is _, Mo.is _, moA z2.on.heap.size [.int .i64 0, .int .i64 0, .slice none 0 0, .int .i64 0, .string ByteArray.empty] 26]) (by kernel_rfl) (by kernel_rfl) (by kernel_rfl) (by kernel_rfl) (by kernel_rfl) (by decide) (by kernel_rfl) (relR_mono _) (StepD.all ?st2) ?q2
          case st2 =>
            refine ⟨?_, ?_, ?_, ?_, ?_, ?_, ?_, ?_, ?_, ?_, trivial⟩
            · intro a' w' hx hs hd
              obtain ⟨y, rfl⟩ := hx.ew
              have e2 : a'.tmps[2]?.getD undef = _ := hs 2 rfl
              simp only [List.getElem?_toArray, List.getElem?_cons_succ, List.getElem?_cons_zero, Option.getD_some, Array.getElem?_eq_some_iff] at e2
              refine .inl ⟨rfl, ?_⟩
              clear hs hd hx
              go_simp
              exact ⟨Ext.refl _ _, rfl⟩
            · intro a' w' hx hs hd
              obtain ⟨y, rfl⟩ := hx.ew
              have e90 : a'.tmps[90]?.getD undef = _ := hd 0 90 rfl rfl
              refine .inl ⟨rfl, ?_⟩
              clear hs hd hx
              go_simp
              exact ⟨Ext.refl _ _, rfl⟩
            · intro a' w' hx hs hd
              obtain ⟨y, rfl⟩ := hx.ew
              have e12 : a'.tmps[12]?.getD undef = _ := hs 12 rfl
              simp only [List.getElem?_toArray, List.getElem?_cons_succ, List.getElem?_cons_zero, Option.getD_some, Array.getElem?_eq_some_iff] at e12
              refine .inl ⟨rfl, ?_⟩
              clear hs hd hx
              go_simp
              exact ⟨Ext.refl _ _, rfl⟩
            · intro a' w' hx hs hd
              obtain ⟨y, rfl⟩ := hx.ew
              have e91 : a'.tmps[91]?.getD undef = _ := hd 1 91 rfl rfl
              have e92 : a'.tmps[92]?.getD undef = _ := hd 2 92 rfl rfl
              refine .inl ⟨rfl, ?_⟩
              clear hs hd hx
              go_simp
              exact ⟨Ext.refl _ _, rfl⟩
            · intro a' w' hx hs hd
              obtain ⟨y, rfl⟩ := hx.ew
              have e93 : a'.tmps[93]?.getD undef = _ := hd 3 93 rfl rfl
              refine .inl ⟨rfl, ?_⟩
              clear hs hd hx
              go_simp
              exact ⟨Ext.refl _ _, rfl⟩
            · intro a' w' hx hs hd
              obtain ⟨y, rfl⟩ := hx.ew
              have e3 : a'.tmps[3]?.getD undef = _ := hs 3 rfl
              simp only [List.getElem?_toArray, List.getElem?_cons_succ, List.getElem?_cons_zero, Option.getD_some, Array.getElem?_eq_some_iff] at e3
              refine .inl ⟨rfl, ?_⟩
              clear hs hd hx
              go_simp
              exact ⟨Ext.refl _ _, rfl⟩
            · intro a' w' hx hs hd
              obtain ⟨y, rfl⟩ := hx.ew
              have e95 : a'.tmps[95]?.getD undef = _ := hd 5 95 rfl rfl
              refine .inl ⟨rfl, ?_⟩
              clear hs hd hx
              go_simp
              exact ⟨Ext.refl _ _, rfl⟩
            · intro a' w' hx hs hd
              obtain ⟨y, rfl⟩ := hx.ew
              have e96 : a'.tmps[96]?.getD undef = _ := hd 6 96 rfl rfl
              refine .inl ⟨rfl, ?_⟩
              clear hs hd hx
              go_simp
              exact ⟨Ext.refl _ _, rfl⟩
            · intro a' w' hx hs hd
              obtain ⟨y, rfl⟩ := hx.ew
              have e94 : a'.tmps[94]?.getD undef = _ := hd 4 94 rfl rfl
              have e97 : a'.tmps[97]?.getD undef = _ := hd 7 97 rfl rfl
              refine .inl ⟨rfl, ?_⟩
              clear hs hd hx
              go_simp
              exact ⟨Ext.refl _ _, rfl⟩
            · intro a' w' hx hs hd
              obtain ⟨y, rfl⟩ := hx.ew
              refine .inl ⟨rfl, ?_⟩
              clear hs hd hx
              go_simp
              exact ⟨(Ext.refl _ _).alloc _, _, rfl, y.ext.size, Bx.newAt _ _ _ _ rfl⟩
          case' q2 =>
            intro vs w' hx hRR
            obtain ⟨x7, rfl⟩ := hx.ew
            have q0 : vs 0 = _ := hRR 0 (by decide)
            have q1 : vs 1 = _ := hRR 1 (by decide)
            have q2 : vs 2 = _ := hRR 2 (by decide)
            have q3 : vs 3 = _ := hRR 3 (by decide)
            have q4 : vs 4 = _ := hRR 4 (by decide)
            have q5 : vs 5 = _ := hRR 5 (by decide)
            have q6 : vs 6 = _ := hRR 6 (by decide)
            have q7 : vs 7 = _ := hRR 7 (by decide)
            have q8 : vs 8 = _ := hRR 8 (by decide)
            obtain ⟨g13, q9, hg13, hB13⟩ : ∃ g, vs 9 = .pointer (some ⟨g, 0, none⟩) ∧ z2.on.heap.size ≤ g ∧ Bx x7.on g [.int .i64 0, .int .i64 0, .slice none 0 0, .int .i64 0, .string ByteArray.empty] 26 := hRR 9 (by decide)
            clear hRR hx
            simp only [putAll, List.take_succ_cons, List.take_zero, List.drop_succ_cons, List.drop_zero, Act.put, List.setIfInBounds_toArray, List.set_cons_zero, List.set_cons_succ, Nat.reduceAdd, Nat.zero_add]
            simp only [q0, q1, q2, q3, q4, q5, q6, q7, q8, q9]
            clear q0 q1 q2 q3 q4 q5 q6 q7 q8 q9 vs
          have HB13 := Go.Lib.hid hB13
          clear hB13
          have hz13 : z2.on.heap.size ≤ g13 := hg13
          go_upto_region 22 with (refine wpList_store_box rfl 26 _ _ rfl g13 _ [.int .i64 m, .int .i64 (v + 1), .slice none 0 0, .int .i64 0, .string ByteArray.empty] _ rfl rfl HB13.out rfl info_change1 (by simp [Value.oneCell']) (fun W hB => ?_); have BY := Go.Lib.hid hB; clear hB)
          obtain ⟨x8, hx8⟩ := (by (repeat (first | with_reducible exact Ext.refl _ _ | assumption | with_reducible refine Ext.upN ?_ | with_reducible refine Ext.alloc ?_ _ | with_reducible refine Ext.upA (by assumption) ?_ | with_reducible refine Ext.upW ?_ | with_reducible refine Ext.drew ?_ | with_reducible refine Ext.drewN ?_ _ | with_reducible refine Ext.upF ?_ | with_reducible refine Ext.upFF (by first | omega | simp) ?_ | with_reducible refine Ext.setCellsF _ _ _ (by first | omega | simp) ?_ | with_reducible refine Ext.setCellF _ _ _ (by first | omega | simp) ?_ | with_reducible refine Ext.upFN (by first | omega | simp) ?_ | with_reducible refine Ext.up1F (by first | omega | simp) ?_ | with_reducible refine Ext.up1N (by first | omega | simp) ?_ | with_reducible refine Ext.setCell ?_ (.inr (by first | omega | simp)) _ | refine Ext.alloc ?_ _ | refine Ext.setCellF _ _ _ (by first | omega | simp) ?_ | refine Ext.setCell ?_ (.inr (by first | omega | simp)) _)) : Ext Non z2.on W.on).ew
          rw [hx8] at BY ⊢
          clear hx8 HB13
          have y0 : x8.on.cell? ⟨g13, 0, none⟩ = some (.int .i64 m) := BY.out.cell rfl
          have y1 : x8.on.cell? ⟨g13, 1, none⟩ = some (.int .i64 (v + 1)) := BY.out.cell rfl
          have y2 : x8.on.cell? ⟨g13, 2, none⟩ = some (.slice none 0 0) := BY.out.cell rfl
          have f2 : x8.on.frozen? ⟨g13, 2, none⟩ = false := froz_of_heap BY.out.h
          simp only [Act.put]
          go_wp2_with fail
          refine Calls.ewD (ref_Has ba bcap bad m _ (HB.out.extN (by (repeat (first | with_reducible exact Ext.refl _ _ | assumption | with_reducible refine Ext.upN ?_ | with_reducible refine Ext.alloc ?_ _ | with_reducible refine Ext.upA (by assumption) ?_ | with_reducible refine Ext.upW ?_ | with_reducible refine Ext.drew ?_ | with_reducible refine Ext.drewN ?_ _ | with_reducible refine Ext.upF ?_ | with_reducible refine Ext.upFF (by first | omega | simp) ?_ | with_reducible refine Ext.setCellsF _ _ _ (by first | omega | simp) ?_ | with_reducible refine Ext.setCellF _ _ _ (by first | omega | simp) ?_ | with_reducible refine Ext.upFN (by first | omega | simp) ?_ | with_reducible refine Ext.up1F (by first | omega | simp) ?_ | with_reducible refine Ext.up1N (by first | omega | simp) ?_ | with_reducible refine Ext.setCell ?_ (.inr (by first | omega | simp)) _ | refine Ext.alloc ?_ _ | refine Ext.setCellF _ _ _ (by first | omega | simp) ?_ | refine Ext.setCell ?_ (.inr (by first | omega | simp)) _))))) ?_
          rintro e x9 rfl
          go_upto_if 103 with fail
          have KCi : Hid (kCerts ep xs v bad ⟨kc, ks, ⟨kk, key, real, kid⟩⟩ lies Q i = if hasB bad m = true then kLie ep xs v lies Q else if i < Q then [kCert ep xs Q v ⟨kc, ks, ⟨kk, key, real, kid⟩⟩] else []) := Go.Lib.hid (by unfold kCerts; rw [HXI.out])
          have hx6g : x6.on.heap.size ≤ g13 := by have := z2.ext.size; omega
          have hg13l : g13 < x9.on.heap.size := by have h1 := BY.out.lt; have h2 := x9.ext.size; omega
          have hg13n : ¬ g13 = x9.on.heap.size := by omega
          have hz9 : z2.on.heap.size ≤ x9.on.heap.size := by omega
          go_cut [] (fun wx => ∃ (cs : List Ct) (ca : Option Addr) (cc : Nat) (x10 : EW Non z2.on), wx = x10.on ∧ Hid (cs = kCerts ep xs v bad ⟨kc, ks, ⟨kk, key, real, kid⟩⟩ lies Q i) ∧ Hid (Bx wx g13 [.int .i64 m, .int .i64 (v + 1), .slice ca cs.length cc, .int .i64 0, .string ByteArray.empty] 26) ∧ Hid (StabC x6.on.heap.size z2.on.heap.size wx ca cc cs))
          case first =>
            --D[
            cases hbd : hasB bad m
            · have HBD := Go.Lib.hid hbd
              clear hbd
              by_cases hiQ : i < Q
              · have o0 : x6.on.cell? ⟨g10, 0, none⟩ = some (.int .i64 v) := BZ.out.cell rfl
                have o1 : x6.on.cell? ⟨g10, 1, none⟩ = some (.int .i64 (4 * ep + 2)) := BZ.out.cell rfl
                have o2 : x6.on.cell? ⟨g10, 2, none⟩ = some (.int .i64 kc) := BZ.out.cell rfl
                have o3 : x6.on.cell? ⟨g10, 3, none⟩ = some (.int .i64 ks) := BZ.out.cell rfl
                have o4 : x6.on.cell? ⟨g10, 4, none⟩ = some (.int .i64 kk) := BZ.out.cell rfl
                have o5 : x6.on.cell? ⟨g10, 5, none⟩ = some (.string key) := BZ.out.cell rfl
                have o6 : x6.on.cell? ⟨g10, 6, none⟩ = some (.float .f64 real) := BZ.out.cell rfl
                have o7 : x6.on.cell? ⟨g10, 7, none⟩ = some (.int .i64 kid) := BZ.out.cell rfl
                have o8 : x6.on.cell? ⟨g10, 8, none⟩ = some (.slice sa Q scap) := BZ.out.cell rfl
                go_wp2_with fail
                go_meet
                have XE : Ext Non x6.on ((x9.on.setCell ⟨g13, 2, none⟩ (.slice (some ⟨x9.on.heap.size, 0, none⟩) 1 1)).alloc (.cells [.int .i64 v, .int .i64 (4 * ep + 2), .int .i64 kc, .int .i64 ks, .int .i64 kk, .string key, .float .f64 real, .int .i64 kid, .slice sa Q scap].toArray 52)) := by (repeat (first | with_reducible exact Ext.refl _ _ | assumption | with_reducible refine Ext.upN ?_ | with_reducible refine Ext.alloc ?_ _ | with_reducible refine Ext.upA (by assumption) ?_ | with_reducible refine Ext.upW ?_ | with_reducible refine Ext.drew ?_ | with_reducible refine Ext.drewN ?_ _ | with_reducible refine Ext.upF ?_ | with_reducible refine Ext.upFF (by first | omega | simp) ?_ | with_reducible refine Ext.setCellsF _ _ _ (by first | omega | simp) ?_ | with_reducible refine Ext.setCellF _ _ _ (by first | omega | simp) ?_ | with_reducible refine Ext.upFN (by first | omega | simp) ?_ | with_reducible refine Ext.up1F (by first | omega | simp) ?_ | with_reducible refine Ext.up1N (by first | omega | simp) ?_ | with_reducible refine Ext.setCell ?_ (.inr (by first | omega | simp)) _ | refine Ext.alloc ?_ _ | refine Ext.setCellF _ _ _ (by first | omega | simp) ?_ | refine Ext.setCell ?_ (.inr (by first | omega | simp)) _))
                exact ⟨[kCert ep xs Q v ⟨kc, ks, ⟨kk, key, real, kid⟩⟩], some ⟨x9.on.heap.size, 0, none⟩, 1, ⟨_, by (repeat (first | with_reducible exact Ext.refl _ _ | assumption | with_reducible refine Ext.upN ?_ | with_reducible refine Ext.alloc ?_ _ | with_reducible refine Ext.upA (by assumption) ?_ | with_reducible refine Ext.upW ?_ | with_reducible refine Ext.drew ?_ | with_reducible refine Ext.drewN ?_ _ | with_reducible refine Ext.upF ?_ | with_reducible refine Ext.upFF (by first | omega | simp) ?_ | with_reducible refine Ext.setCellsF _ _ _ (by first | omega | simp) ?_ | with_reducible refine Ext.setCellF _ _ _ (by first | omega | simp) ?_ | with_reducible refine Ext.upFN (by first | omega | simp) ?_ | with_reducible refine Ext.up1F (by first | omega | simp) ?_ | with_reducible refine Ext.up1N (by first | omega | simp) ?_ | with_reducible refine Ext.setCell ?_ (.inr (by first | omega | simp)) _ | refine Ext.alloc ?_ _ | refine Ext.setCellF _ _ _ (by first | omega | simp) ?_ | refine Ext.setCell ?_ (.inr (by first | omega | simp)) _))⟩, rfl, Go.Lib.hid (by rw [KCi.out, if_neg (by rw [HBD.out]; simp), if_pos hiQ]),
                  Go.Lib.hid (((BY.out.extN x9.ext).set _).alloc _),
                  Go.Lib.hid (fun S w' x hS => certs_box w' x9.on.heap.size 52 sa scap (kCert ep xs Q v ⟨kc, ks, ⟨kk, key, real, kid⟩⟩) (by rw [kCert_cells hQn]; exact (Bx.newAt _ _ _ _ (by simp [World.setCell])).ext x (fun h => by have := (hS _ h).2; omega)) (HSW.out.extN (XE.step x (fun i hi h => by have := (hS i h).1; omega))) HK.out.2.2.2 HK.out.2.1 (by show I64 (4 * ep + 2); unfold I64; omega))⟩
              · go_wp2_with fail
                go_meet
                exact ⟨[], none, 0, ⟨_, by (repeat (first | with_reducible exact Ext.refl _ _ | assumption | with_reducible refine Ext.upN ?_ | with_reducible refine Ext.alloc ?_ _ | with_reducible refine Ext.upA (by assumption) ?_ | with_reducible refine Ext.upW ?_ | with_reducible refine Ext.drew ?_ | with_reducible refine Ext.drewN ?_ _ | with_reducible refine Ext.upF ?_ | with_reducible refine Ext.upFF (by first | omega | simp) ?_ | with_reducible refine Ext.setCellsF _ _ _ (by first | omega | simp) ?_ | with_reducible refine Ext.setCellF _ _ _ (by first | omega | simp) ?_ | with_reducible refine Ext.upFN (by first | omega | simp) ?_ | with_reducible refine Ext.up1F (by first | omega | simp) ?_ | with_reducible refine Ext.up1N (by first | omega | simp) ?_ | with_reducible refine Ext.setCell ?_ (.inr (by first | omega | simp)) _ | refine Ext.alloc ?_ _ | refine Ext.setCellF _ _ _ (by first | omega | simp) ?_ | refine Ext.setCell ?_ (.inr (by first | omega | simp)) _))⟩, rfl, Go.Lib.hid (by rw [KCi.out, if_neg (by rw [HBD.out]; simp), if_neg hiQ]), Go.Lib.hid (BY.out.extN (by (repeat (first | with_reducible exact Ext.refl _ _ | assumption | with_reducible refine Ext.upN ?_ | with_reducible refine Ext.alloc ?_ _ | with_reducible refine Ext.upA (by assumption) ?_ | with_reducible refine Ext.upW ?_ | with_reducible refine Ext.drew ?_ | with_reducible refine Ext.drewN ?_ _ | with_reducible refine Ext.upF ?_ | with_reducible refine Ext.upFF (by first | omega | simp) ?_ | with_reducible refine Ext.setCellsF _ _ _ (by first | omega | simp) ?_ | with_reducible refine Ext.setCellF _ _ _ (by first | omega | simp) ?_ | with_reducible refine Ext.upFN (by first | omega | simp) ?_ | with_reducible refine Ext.up1F (by first | omega | simp) ?_ | with_reducible refine Ext.up1N (by first | omega | simp) ?_ | with_reducible refine Ext.setCell ?_ (.inr (by first | omega | simp)) _ | refine Ext.alloc ?_ _ | refine Ext.setCellF _ _ _ (by first | omega | simp) ?_ | refine Ext.setCell ?_ (.inr (by first | omega | simp)) _)))), Go.Lib.hid (StabC.nil _ _ _)⟩
            · have HBD := Go.Lib.hid hbd
              clear hbd
              have BY0 : Hid (Bx x9.on g13 [.int .i64 m, .int .i64 (v + 1), .slice none ([] : List Ct).length 0, .int .i64 0, .string ByteArray.empty] 26) := Go.Lib.hid (BY.out.extN x9.ext)
              go_wp2_with fail
              go_loopg [14] 2 (fun g kv wr => ∃ (k : Nat) (cs : List Ct) (ca : Option Addr) (cc : Nat) (z7 : EW Non z2.on), kv = .int .i64 k ∧ g = 2 - k ∧ k ≤ 1 ∧ wr = z7.on ∧ g13 < z7.on.heap.size ∧ Hid (Bx wr g13 [.int .i64 m, .int .i64 (v + 1), .slice ca cs.length cc, .int .i64 0, .string ByteArray.empty] 26) ∧ Hid (StabC x6.on.heap.size z2.on.heap.size wr ca cc cs) ∧ Hid ((k = 0 → cs = [] ∧ ca = none ∧ cc = 0) ∧ (k = 1 → cs = kLie ep xs v lies Q)))
              case atStart => exact ⟨0, [], none, 0, ⟨_, by (repeat (first | with_reducible exact Ext.refl _ _ | assumption | with_reducible refine Ext.upN ?_ | with_reducible refine Ext.alloc ?_ _ | with_reducible refine Ext.upA (by assumption) ?_ | with_reducible refine Ext.upW ?_ | with_reducible refine Ext.drew ?_ | with_reducible refine Ext.drewN ?_ _ | with_reducible refine Ext.upF ?_ | with_reducible refine Ext.upFF (by first | omega | simp) ?_ | with_reducible refine Ext.setCellsF _ _ _ (by first | omega | simp) ?_ | with_reducible refine Ext.setCellF _ _ _ (by first | omega | simp) ?_ | with_reducible refine Ext.upFN (by first | omega | simp) ?_ | with_reducible refine Ext.up1F (by first | omega | simp) ?_ | with_reducible refine Ext.up1N (by first | omega | simp) ?_ | with_reducible refine Ext.setCell ?_ (.inr (by first | omega | simp)) _ | refine Ext.alloc ?_ _ | refine Ext.setCellF _ _ _ (by first | omega | simp) ?_ | refine Ext.setCell ?_ (.inr (by first | omega | simp)) _))⟩, rfl, rfl, by omega, rfl, hg13l, BY0, Go.Lib.hid (StabC.nil _ _ _), Go.Lib.hid ⟨fun _ => ⟨rfl, rfl, rfl⟩, fun h => by cases h⟩⟩
              case round =>
                clear BY0 y0 y1 y2 f2 hg13l hg13n
                obtain ⟨k, cs, ca, cc, z7, rfl, hg2, hk1, rfl, hg13l, BK, CK, KK⟩ := hrel
                have HG2 := Go.Lib.hid hg2; clear hg2
                by_cases hgo : k = 0 ∧ 0 < lies.length
                · obtain ⟨rfl, hlz⟩ := hgo
                  obtain ⟨rfl, rfl, rfl⟩ := KK.out.1 rfl
                  obtain ⟨lb, lo, lsa, lscap, rfl, hlb, hlc, -, hlr, hlv, -⟩ := HL.out.at_ 0 hlz
                  have KL : Hid (kLie ep xs v lies Q = if 0 ≤ (ctAt lies 0).view ∧ (ctAt lies 0).view < v then [kCert ep xs Q (ctAt lies 0).view (ctAt lies 0).req] else []) := Go.Lib.hid (by
                    cases lies with
                    | nil => simp at hlz
                    | cons z t => rfl)
                  generalize ctAt lies 0 = zc at *
                  obtain ⟨zv, zs, ⟨zrc, zrs, ⟨zrk, zrkey, zrx, zrid⟩⟩, zsl⟩ := zc
                  have l0 : w.cell? ⟨lb, lo, none⟩ = some (.int .i64 zv) := by simpa using hlc 0 _ rfl
                  have l2 : w.cell? ⟨lb, lo + 2, none⟩ = some (.int .i64 zrc) := by simpa using hlc 2 _ rfl
                  have l3 : w.cell? ⟨lb, lo + 3, none⟩ = some (.int .i64 zrs) := by simpa using hlc 3 _ rfl
                  have l4 : w.cell? ⟨lb, lo + 4, none⟩ = some (.int .i64 zrk) := by simpa using hlc 4 _ rfl
                  have l5 : w.cell? ⟨lb, lo + 5, none⟩ = some (.string zrkey) := by simpa using hlc 5 _ rfl
                  have l6 : w.cell? ⟨lb, lo + 6, none⟩ = some (.float .f64 zrx) := by simpa using hlc 6 _ rfl
                  have l7 : w.cell? ⟨lb, lo + 7, none⟩ = some (.int .i64 zrid) := by simpa using hlc 7 _ rfl
                  have HLR : Hid (ReqOk ⟨zrc, zrs, ⟨zrk, zrkey, zrx, zrid⟩⟩ ∧ I64 zv) := Go.Lib.hid ⟨hlr, hlv⟩
                  clear hlc hlr hlv
                  go_upto_region 26 with fail
                  apply wp_region_rel_tail 21 (relR [Mo.is _, Mo.is _, Mo.is _, Mo.is _, Mo.is _, Mo.is _, Mo.is _, Mo.is _, Mo.is _, Mo.is _, Mo.is _, Mo.is _, Mo.is _, Mo.is _, Mo.is _, Mo.is _, Mo.is _, Mo.is _, Mo.is _, moC z7.on.heap.size ep zv ⟨zrc, zrs, ⟨zrk, zrkey, zrx, zrid⟩⟩ Q (sigsOf (xs.take Q) (prepS ep zv (4 * ep + 2) ⟨zrc, zrs, ⟨zrk, zrkey, zrx, zrid⟩⟩)), moA z7.on.heap.size ((default : Ct).cells none 0) 52]) (by kernel_rfl) (by kernel_rfl) (by kernel_rfl) (by kernel_rfl) (by kernel_rfl) (by decide) (by kernel_rfl) (relR_mono _) (StepD.all ?st3) ?q3
                  case st3 =>
                    refine ⟨?_, ?_, ?_, ?_, ?_, ?_, ?_, ?_, ?_, ?_, ?_, ?_, ?_, ?_, ?_, ?_, ?_, ?_, ?_, ?_, ?_, trivial⟩
                    · intro a' w' hx hs hd
                      obtain ⟨y, rfl⟩ := hx.ew
                      have e2 : a'.tmps[2]?.getD undef = _ := hs 2 rfl
                      simp only [List.getElem?_toArray, List.getElem?_cons_succ, List.getElem?_cons_zero, Option.getD_some, Array.getElem?_eq_some_iff] at e2
                      refine .inl ⟨rfl, ?_⟩
                      clear hs hd hx
                      go_simp
                      exact ⟨Ext.refl _ _, rfl⟩
                    · intro a' w' hx hs hd
                      obtain ⟨y, rfl⟩ := hx.ew
                      have e115 : a'.tmps[115]?.getD undef = _ := hd 0 115 rfl rfl
                      refine .inl ⟨rfl, ?_⟩
                      clear hs hd hx
                      go_simp
                      exact ⟨Ext.refl _ _, rfl⟩
                    · intro a' w' hx hs hd
                      obtain ⟨y, rfl⟩ := hx.ew
                      have e3 : a'.tmps[3]?.getD undef = _ := hs 3 rfl
                      simp only [List.getElem?_toArray, List.getElem?_cons_succ, List.getElem?_cons_zero, Option.getD_some, Array.getElem?_eq_some_iff] at e3
                      refine .inl ⟨rfl, ?_⟩
                      clear hs hd hx
                      go_simp
                      exact ⟨Ext.refl _ _, rfl⟩
                    · intro a' w' hx hs hd
                      obtain ⟨y, rfl⟩ := hx.ew
                      have e117 : a'.tmps[117]?.getD undef = _ := hd 2 117 rfl rfl
                      refine .inl ⟨rfl, ?_⟩
                      clear hs hd hx
                      go_simp
                      exact ⟨Ext.refl _ _, rfl⟩
                    · intro a' w' hx hs hd
                      obtain ⟨y, rfl⟩ := hx.ew
                      have e14 : a'.tmps[14]?.getD undef = _ := hs 14 rfl
                      simp only [List.getElem?_toArray, List.getElem?_cons_succ, List.getElem?_cons_zero, Option.getD_some, Array.getElem?_eq_some_iff] at e14
                      refine .inl ⟨rfl, ?_⟩
                      clear hs hd hx
                      go_simp
                      exact ⟨Ext.refl _ _, rfl⟩
                    · intro a' w' hx hs hd
                      obtain ⟨y, rfl⟩ := hx.ew
                      have e118 : a'.tmps[118]?.getD undef = _ := hd 3 118 rfl rfl
                      have e119 : a'.tmps[119]?.getD undef = _ := hd 4 119 rfl rfl
                      refine .inl ⟨rfl, ?_⟩
                      clear hs hd hx
                      go_simp
                      exact ⟨Ext.refl _ _, rfl⟩
                    · intro a' w' hx hs hd
                      obtain ⟨y, rfl⟩ := hx.ew
                      have e120 : a'.tmps[120]?.getD undef = _ := hd 5 120 rfl rfl
                      refine .inl ⟨rfl, ?_⟩
                      clear hs hd hx
                      go_simp
                      exact ⟨Ext.refl _ _, rfl⟩
                    · intro a' w' hx hs hd
                      obtain ⟨y, rfl⟩ := hx.ew
                      have e121 : a'.tmps[121]?.getD undef = _ := hd 6 121 rfl rfl
                      refine .inl ⟨rfl, ?_⟩
                      clear hs hd hx
                      go_simp
                      exact ⟨Ext.refl _ _, rfl⟩
                    · intro a' w' hx hs hd
                      obtain ⟨y, rfl⟩ := hx.ew
                      have e9 : a'.tmps[9]?.getD undef = _ := hs 9 rfl
                      simp only [List.getElem?_toArray, List.getElem?_cons_succ, List.getElem?_cons_zero, Option.getD_some, Array.getElem?_eq_some_iff] at e9
                      refine .inl ⟨rfl, ?_⟩
                      clear hs hd hx
                      go_simp
                      exact ⟨Ext.refl _ _, rfl⟩
                    · intro a' w' hx hs hd
                      obtain ⟨y, rfl⟩ := hx.ew
                      have e3 : a'.tmps[3]?.getD undef = _ := hs 3 rfl
                      simp only [List.getElem?_toArray, List.getElem?_cons_succ, List.getElem?_cons_zero, Option.getD_some, Array.getElem?_eq_some_iff] at e3
                      refine .inl ⟨rfl, ?_⟩
                      clear hs hd hx
                      go_simp
                      exact ⟨Ext.refl _ _, rfl⟩
                    · intro a' w' hx hs hd
                      obtain ⟨y, rfl⟩ := hx.ew
                      have e124 : a'.tmps[124]?.getD undef = _ := hd 9 124 rfl rfl
                      refine .inl ⟨rfl, ?_⟩
                      clear hs hd hx
                      go_simp
                      exact ⟨Ext.refl _ _, rfl⟩
                    · intro a' w' hx hs hd
                      obtain ⟨y, rfl⟩ := hx.ew
                      have e14 : a'.tmps[14]?.getD undef = _ := hs 14 rfl
                      simp only [List.getElem?_toArray, List.getElem?_cons_succ, List.getElem?_cons_zero, Option.getD_some, Array.getElem?_eq_some_iff] at e14
                      refine .inl ⟨rfl, ?_⟩
                      clear hs hd hx
                      go_simp
                      exact ⟨Ext.refl _ _, rfl⟩
                    · intro a' w' hx hs hd
                      obtain ⟨y, rfl⟩ := hx.ew
                      have e125 : a'.tmps[125]?.getD undef = _ := hd 10 125 rfl rfl
                      have e126 : a'.tmps[126]?.getD undef = _ := hd 11 126 rfl rfl
                      refine .inl ⟨rfl, ?_⟩
                      clear hs hd hx
                      go_simp
                      exact ⟨Ext.refl _ _, rfl⟩
                    · intro a' w' hx hs hd
                      obtain ⟨y, rfl⟩ := hx.ew
                      have e127 : a'.tmps[127]?.getD undef = _ := hd 12 127 rfl rfl
                      refine .inl ⟨rfl, ?_⟩
                      clear hs hd hx
                      go_simp
                      exact ⟨Ext.refl _ _, rfl⟩
                    · intro a' w' hx hs hd
                      obtain ⟨y, rfl⟩ := hx.ew
                      have e128 : a'.tmps[128]?.getD undef = _ := hd 13 128 rfl rfl
                      refine .inl ⟨rfl, ?_⟩
                      clear hs hd hx
                      go_simp
                      exact ⟨Ext.refl _ _, rfl⟩
                    · intro a' w' hx hs hd
                      obtain ⟨y, rfl⟩ := hx.ew
                      have e2 : a'.tmps[2]?.getD undef = _ := hs 2 rfl
                      simp only [List.getElem?_toArray, List.getElem?_cons_succ, List.getElem?_cons_zero, Option.getD_some, Array.getElem?_eq_some_iff] at e2
                      refine .inl ⟨rfl, ?_⟩
                      clear hs hd hx
                      go_simp
                      exact ⟨Ext.refl _ _, rfl⟩
                    · intro a' w' hx hs hd
                      obtain ⟨y, rfl⟩ := hx.ew
                      have e130 : a'.tmps[130]?.getD undef = _ := hd 15 130 rfl rfl
                      refine .inl ⟨rfl, ?_⟩
                      clear hs hd hx
                      go_simp
                      exact ⟨Ext.refl _ _, rfl⟩
                    · intro a' w' hx hs hd
                      obtain ⟨y, rfl⟩ := hx.ew
                      have e8 : a'.tmps[8]?.getD undef = _ := hs 8 rfl
                      simp only [List.getElem?_toArray, List.getElem?_cons_succ, List.getElem?_cons_zero, Option.getD_some, Array.getElem?_eq_some_iff] at e8
                      refine .inl ⟨rfl, ?_⟩
                      clear hs hd hx
                      go_simp
                      exact ⟨Ext.refl _ _, rfl⟩
                    · intro a' w' hx hs hd
                      obtain ⟨y, rfl⟩ := hx.ew
                      have e131 : a'.tmps[131]?.getD undef = _ := hd 16 131 rfl rfl
                      have e132 : a'.tmps[132]?.getD undef = _ := hd 17 132 rfl rfl
                      refine .inl ⟨rfl, ?_⟩
                      clear hs hd hx
                      go_simp
                      exact ⟨Ext.refl _ _, rfl⟩
                    · intro a' w' hx hs hd
                      obtain ⟨y, rfl⟩ := hx.ew
                      have e116 : a'.tmps[116]?.getD undef = _ := hd 1 116 rfl rfl
                      have e122 : a'.tmps[122]?.getD undef = _ := hd 7 122 rfl rfl
                      have e123 : a'.tmps[123]?.getD undef = _ := hd 8 123 rfl rfl
                      have e129 : a'.tmps[129]?.getD undef = _ := hd 14 129 rfl rfl
                      have e133 : a'.tmps[133]?.getD undef = _ := hd 18 133 rfl rfl
                      refine .inl ⟨rfl, ?_⟩
                      clear hs hd hx
                      go_simp
                      exact (KC.out _ zv zrc zrs zrk zrkey zrx zrid (HX.out.extN (by (repeat (first | with_reducible exact Ext.refl _ _ | assumption | with_reducible refine Ext.upN ?_ | with_reducible refine Ext.alloc ?_ _ | with_reducible refine Ext.upA (by assumption) ?_ | with_reducible refine Ext.upW ?_ | with_reducible refine Ext.drew ?_ | with_reducible refine Ext.drewN ?_ _ | with_reducible refine Ext.upF ?_ | with_reducible refine Ext.upFF (by first | omega | simp) ?_ | with_reducible refine Ext.setCellsF _ _ _ (by first | omega | simp) ?_ | with_reducible refine Ext.setCellF _ _ _ (by first | omega | simp) ?_ | with_reducible refine Ext.upFN (by first | omega | simp) ?_ | with_reducible refine Ext.up1F (by first | omega | simp) ?_ | with_reducible refine Ext.up1N (by first | omega | simp) ?_ | with_reducible refine Ext.setCell ?_ (.inr (by first | omega | simp)) _ | refine Ext.alloc ?_ _ | refine Ext.setCellF _ _ _ (by first | omega | simp) ?_ | refine Ext.setCell ?_ (.inr (by first | omega | simp)) _)))) HLR.out.2 HLR.out.1).mono (fun e w'' ⟨ra, rc, he, hR, hx, hf⟩ => ⟨_, he, hx, ra, rc, rfl, hR, fun b o q => Nat.le_trans y.ext.size (hf b o q)⟩)
                    · intro a' w' hx hs hd
                      obtain ⟨y, rfl⟩ := hx.ew
                      refine .inl ⟨rfl, ?_⟩
                      clear hs hd hx
                      go_simp
                      exact ⟨(Ext.refl _ _).alloc _, _, rfl, y.ext.size, Bx.newAt _ _ _ _ rfl⟩
                  case' q3 =>
                    intro vs w' hx hRR
                    obtain ⟨x11, rfl⟩ := hx.ew
                    have q0 : vs 0 = _ := hRR 0 (by decide)
                    have q1 : vs 1 = _ := hRR 1 (by decide)
                    have q2 : vs 2 = _ := hRR 2 (by decide)
                    have q3 : vs 3 = _ := hRR 3 (by decide)
                    have q4 : vs 4 = _ := hRR 4 (by decide)
                    have q5 : vs 5 = _ := hRR 5 (by decide)
                    have q6 : vs 6 = _ := hRR 6 (by decide)
                    have q7 : vs 7 = _ := hRR 7 (by decide)
                    have q8 : vs 8 = _ := hRR 8 (by decide)
                    have q9 : vs 9 = _ := hRR 9 (by decide)
                    have q10 : vs 10 = _ := hRR 10 (by decide)
                    have q11 : vs 11 = _ := hRR 11 (by decide)
                    have q12 : vs 12 = _ := hRR 12 (by decide)
                    have q13 : vs 13 = _ := hRR 13 (by decide)
                    have q14 : vs 14 = _ := hRR 14 (by decide)
                    have q15 : vs 15 = _ := hRR 15 (by decide)
                    have q16 : vs 16 = _ := hRR 16 (by decide)
                    have q17 : vs 17 = _ := hRR 17 (by decide)
                    have q18 : vs 18 = _ := hRR 18 (by decide)
                    obtain ⟨sa2, scap2, q19, hS2, hF2⟩ : ∃ sa scap, vs 19 = .agg #[.int .i64 zv, .int .i64 (4 * ep + 2), .int .i64 zrc, .int .i64 zrs, .int .i64 zrk, .string zrkey, .float .f64 zrx, .int .i64 zrid, .slice sa Q scap] ∧ Sigs x11.on sa scap (sigsOf (xs.take Q) (prepS ep zv (4 * ep + 2) ⟨zrc, zrs, ⟨zrk, zrkey, zrx, zrid⟩⟩)) ∧ (∀ b o, sa = some ⟨b, o, none⟩ → z7.on.heap.size ≤ b) := hRR 19 (by decide)
                    obtain ⟨g15, q20, hg15, hB15⟩ : ∃ g, vs 20 = .pointer (some ⟨g, 0, none⟩) ∧ z7.on.heap.size ≤ g ∧ Bx x11.on g ((default : Ct).cells none 0) 52 := hRR 20 (by decide)
                    clear hRR hx
                    simp only [putAll, List.take_succ_cons, List.take_zero, List.drop_succ_cons, List.drop_zero, Act.put, List.setIfInBounds_toArray, List.set_cons_zero, List.set_cons_succ, Nat.reduceAdd, Nat.zero_add]
                    simp only [q0, q1, q2, q3, q4, q5, q6, q7, q8, q9, q10, q11, q12, q13, q14, q15, q16, q17, q18, q19, q20]
                    clear q0 q1 q2 q3 q4 q5 q6 q7 q8 q9 q10 q11 q12 q13 q14 q15 q16 q17 q18 q19 q20 vs
                  have HF2 := Go.Lib.hid hF2; have hzz : z2.on.heap.size ≤ z7.on.heap.size := z7.ext.size
                  clear hF2
                  have HS2 := Go.Lib.hid hS2; have HB15 := Go.Lib.hid hB15
                  clear hS2 hB15
                  have hz15 : z7.on.heap.size ≤ g15 := hg15
                  go_upto_region 27 with (refine wpList_store_box rfl 52 _ _ rfl g15 _ [.int .i64 zv, .int .i64 (4 * ep + 2), .int .i64 zrc, .int .i64 zrs, .int .i64 zrk, .string zrkey, .float .f64 zrx, .int .i64 zrid, .slice sa2 Q scap2] _ rfl rfl HB15.out rfl info_cert1 (by simp [Value.oneCell']) (fun W hB => ?_); have BQ := Go.Lib.hid hB; clear hB)
                  have HSQ := Go.Lib.hid (HS2.out.ext W.ext (sigs_apart HS2.out (by rw [sigsOf_len, List.length_take]; omega) HB15.out))
                  obtain ⟨x12, hx12⟩ := (by (repeat (first | with_reducible exact Ext.refl _ _ | assumption | with_reducible refine Ext.upN ?_ | with_reducible refine Ext.alloc ?_ _ | with_reducible refine Ext.upA (by assumption) ?_ | with_reducible refine Ext.upW ?_ | with_reducible refine Ext.drew ?_ | with_reducible refine Ext.drewN ?_ _ | with_reducible refine Ext.upF ?_ | with_reducible refine Ext.upFF (by first | omega | simp) ?_ | with_reducible refine Ext.setCellsF _ _ _ (by first | omega | simp) ?_ | with_reducible refine Ext.setCellF _ _ _ (by first | omega | simp) ?_ | with_reducible refine Ext.upFN (by first | omega | simp) ?_ | with_reducible refine Ext.up1F (by first | omega | simp) ?_ | with_reducible refine Ext.up1N (by first | omega | simp) ?_ | with_reducible refine Ext.setCell ?_ (.inr (by first | omega | simp)) _ | refine Ext.alloc ?_ _ | refine Ext.setCellF _ _ _ (by first | omega | simp) ?_ | refine Ext.setCell ?_ (.inr (by first | omega | simp)) _)) : Ext Non z7.on W.on).ew
                  rw [hx12] at BQ HSQ ⊢
                  clear hx12 HS2 HB15
                  simp only [Act.put]
                  have p0 : x12.on.cell? ⟨g15, 0, none⟩ = some (.int .i64 zv) := BQ.out.cell rfl
                  have p1 : x12.on.cell? ⟨g15, 1, none⟩ = some (.int .i64 (4 * ep + 2)) := BQ.out.cell rfl
                  have p2 : x12.on.cell? ⟨g15, 2, none⟩ = some (.int .i64 zrc) := BQ.out.cell rfl
                  have p3 : x12.on.cell? ⟨g15, 3, none⟩ = some (.int .i64 zrs) := BQ.out.cell rfl
                  have p4 : x12.on.cell? ⟨g15, 4, none⟩ = some (.int .i64 zrk) := BQ.out.cell rfl
                  have p5 : x12.on.cell? ⟨g15, 5, none⟩ = some (.string zrkey) := BQ.out.cell rfl
                  have p6 : x12.on.cell? ⟨g15, 6, none⟩ = some (.float .f64 zrx) := BQ.out.cell rfl
                  have p7 : x12.on.cell? ⟨g15, 7, none⟩ = some (.int .i64 zrid) := BQ.out.cell rfl
                  have p8 : x12.on.cell? ⟨g15, 8, none⟩ = some (.slice sa2 Q scap2) := BQ.out.cell rfl
                  have yb2 : z7.on.cell? ⟨g13, 2, none⟩ = some (.slice none 0 0) := BK.out.cell rfl
                  have fb2 : z7.on.frozen? ⟨g13, 2, none⟩ = false := froz_of_heap BK.out.h
                  have hgl : g13 < x12.on.heap.size := by have := x12.ext.size; omega
                  have hgn : ¬ g13 = x12.on.heap.size := by omega
                  have hz12 : z2.on.heap.size ≤ x12.on.heap.size := by have := x12.ext.size; omega
                  by_cases hz0 : 0 ≤ zv
                  · by_cases hz1 : zv < v
                    · go_wp2_with fail
                      have XS := Go.Lib.hid ((HSQ.out.ext ((Ext.refl (One g13) x12.on).set1 (o := 2) (.slice (some ⟨x12.on.heap.size, 0, none⟩) 1 1)) (sigs_apart5 HSQ.out (by rw [sigsOf_len, List.length_take]; omega) (BK.out.extN (by (repeat (first | with_reducible exact Ext.refl _ _ | assumption | with_reducible refine Ext.upN ?_ | with_reducible refine Ext.alloc ?_ _ | with_reducible refine Ext.upA (by assumption) ?_ | with_reducible refine Ext.upW ?_ | with_reducible refine Ext.drew ?_ | with_reducible refine Ext.drewN ?_ _ | with_reducible refine Ext.upF ?_ | with_reducible refine Ext.upFF (by first | omega | simp) ?_ | with_reducible refine Ext.setCellsF _ _ _ (by first | omega | simp) ?_ | with_reducible refine Ext.setCellF _ _ _ (by first | omega | simp) ?_ | with_reducible refine Ext.upFN (by first | omega | simp) ?_ | with_reducible refine Ext.up1F (by first | omega | simp) ?_ | with_reducible refine Ext.up1N (by first | omega | simp) ?_ | with_reducible refine Ext.setCell ?_ (.inr (by first | omega | simp)) _ | refine Ext.alloc ?_ _ | refine Ext.setCellF _ _ _ (by first | omega | simp) ?_ | refine Ext.setCell ?_ (.inr (by first | omega | simp)) _)) : Ext Non z7.on x12.on)))).extN ((Ext.refl Non _).alloc (.cells [.int .i64 zv, .int .i64 (4 * ep + 2), .int .i64 zrc, .int .i64 zrs, .int .i64 zrk, .string zrkey, .float .f64 zrx, .int .i64 zrid, .slice sa2 Q scap2].toArray 52)))
                      have HZ : Hid ([kCert ep xs Q zv ⟨zrc, zrs, ⟨zrk, zrkey, zrx, zrid⟩⟩] = kLie ep xs v lies Q) := Go.Lib.hid (by rw [KL.out, if_pos ⟨hz0, hz1⟩])
                      go_roundg 1
                      case measure => have := HG2.out; omega
                      case rel => exact ⟨1, [kCert ep xs Q zv ⟨zrc, zrs, ⟨zrk, zrkey, zrx, zrid⟩⟩], some ⟨x12.on.heap.size, 0, none⟩, 1, ⟨_, by (repeat (first | with_reducible exact Ext.refl _ _ | assumption | with_reducible refine Ext.upN ?_ | with_reducible refine Ext.alloc ?_ _ | with_reducible refine Ext.upA (by assumption) ?_ | with_reducible refine Ext.upW ?_ | with_reducible refine Ext.drew ?_ | with_reducible refine Ext.drewN ?_ _ | with_reducible refine Ext.upF ?_ | with_reducible refine Ext.upFF (by first | omega | simp) ?_ | with_reducible refine Ext.setCellsF _ _ _ (by first | omega | simp) ?_ | with_reducible refine Ext.setCellF _ _ _ (by first | omega | simp) ?_ | with_reducible refine Ext.upFN (by first | omega | simp) ?_ | with_reducible refine Ext.up1F (by first | omega | simp) ?_ | with_reducible refine Ext.up1N (by first | omega | simp) ?_ | with_reducible refine Ext.setCell ?_ (.inr (by first | omega | simp)) _ | refine Ext.alloc ?_ _ | refine Ext.setCellF _ _ _ (by first | omega | simp) ?_ | refine Ext.setCell ?_ (.inr (by first | omega | simp)) _))⟩, by go_num, rfl, by omega, rfl, by simp [World.setCell]; omega,
                        Go.Lib.hid (((BK.out.extN (by (repeat (first | with_reducible exact Ext.refl _ _ | assumption | with_reducible refine Ext.upN ?_ | with_reducible refine Ext.alloc ?_ _ | with_reducible refine Ext.upA (by assumption) ?_ | with_reducible refine Ext.upW ?_ | with_reducible refine Ext.drew ?_ | with_reducible refine Ext.drewN ?_ _ | with_reducible refine Ext.upF ?_ | with_reducible refine Ext.upFF (by first | omega | simp) ?_ | with_reducible refine Ext.setCellsF _ _ _ (by first | omega | simp) ?_ | with_reducible refine Ext.setCellF _ _ _ (by first | omega | simp) ?_ | with_reducible refine Ext.upFN (by first | omega | simp) ?_ | with_reducible refine Ext.up1F (by first | omega | simp) ?_ | with_reducible refine Ext.up1N (by first | omega | simp) ?_ | with_reducible refine Ext.setCell ?_ (.inr (by first | omega | simp)) _ | refine Ext.alloc ?_ _ | refine Ext.setCellF _ _ _ (by first | omega | simp) ?_ | refine Ext.setCell ?_ (.inr (by first | omega | simp)) _)) : Ext Non z7.on x12.on)).set _).alloc _),
                        Go.Lib.hid (fun S w' x hS => certs_box w' x12.on.heap.size 52 sa2 scap2 (kCert ep xs Q zv ⟨zrc, zrs, ⟨zrk, zrkey, zrx, zrid⟩⟩) (by rw [kCert_cells hQn]; exact (Bx.newAt _ _ _ _ (by simp [World.setCell])).ext x (fun h => by have := (hS _ h).2; omega)) (XS.out.ext x (fun b o q h => by have h1 := (hS b h).2; have h2 := HF2.out b o q; omega)) HLR.out.1 HLR.out.2 (by show I64 (4 * ep + 2); unfold I64; omega)), Go.Lib.hid ⟨fun h => by omega, fun _ => HZ.out⟩⟩
                    · have HZ : Hid (([] : List Ct) = kLie ep xs v lies Q) := Go.Lib.hid (by rw [KL.out, if_neg (fun h => hz1 h.2)])
                      go_wp2_with fail
                      go_roundg 1
                      case measure => have := HG2.out; omega
                      case rel => exact ⟨1, [], none, 0, ⟨_, by (repeat (first | with_reducible exact Ext.refl _ _ | assumption | with_reducible refine Ext.upN ?_ | with_reducible refine Ext.alloc ?_ _ | with_reducible refine Ext.upA (by assumption) ?_ | with_reducible refine Ext.upW ?_ | with_reducible refine Ext.drew ?_ | with_reducible refine Ext.drewN ?_ _ | with_reducible refine Ext.upF ?_ | with_reducible refine Ext.upFF (by first | omega | simp) ?_ | with_reducible refine Ext.setCellsF _ _ _ (by first | omega | simp) ?_ | with_reducible refine Ext.setCellF _ _ _ (by first | omega | simp) ?_ | with_reducible refine Ext.upFN (by first | omega | simp) ?_ | with_reducible refine Ext.up1F (by first | omega | simp) ?_ | with_reducible refine Ext.up1N (by first | omega | simp) ?_ | with_reducible refine Ext.setCell ?_ (.inr (by first | omega | simp)) _ | refine Ext.alloc ?_ _ | refine Ext.setCellF _ _ _ (by first | omega | simp) ?_ | refine Ext.setCell ?_ (.inr (by first | omega | simp)) _))⟩, by go_num, rfl, by omega, rfl, by omega, Go.Lib.hid (BK.out.extN (by (repeat (first | with_reducible exact Ext.refl _ _ | assumption | with_reducible refine Ext.upN ?_ | with_reducible refine Ext.alloc ?_ _ | with_reducible refine Ext.upA (by assumption) ?_ | with_reducible refine Ext.upW ?_ | with_reducible refine Ext.drew ?_ | with_reducible refine Ext.drewN ?_ _ | with_reducible refine Ext.upF ?_ | with_reducible refine Ext.upFF (by first | omega | simp) ?_ | with_reducible refine Ext.setCellsF _ _ _ (by first | omega | simp) ?_ | with_reducible refine Ext.setCellF _ _ _ (by first | omega | simp) ?_ | with_reducible refine Ext.upFN (by first | omega | simp) ?_ | with_reducible refine Ext.up1F (by first | omega | simp) ?_ | with_reducible refine Ext.up1N (by first | omega | simp) ?_ | with_reducible refine Ext.setCell ?_ (.inr (by first | omega | simp)) _ | refine Ext.alloc ?_ _ | refine Ext.setCellF _ _ _ (by first | omega | simp) ?_ | refine Ext.setCell ?_ (.inr (by first | omega | simp)) _)))), Go.Lib.hid (StabC.nil _ _ _), Go.Lib.hid ⟨fun h => by omega, fun _ => HZ.out⟩⟩
                  · have HZ : Hid (([] : List Ct) = kLie ep xs v lies Q) := Go.Lib.hid (by rw [KL.out, if_neg (fun h => hz0 h.1)])
                    go_wp2_with fail
                    go_roundg 1
                    case measure => have := HG2.out; omega
                    case rel => exact ⟨1, [], none, 0, ⟨_, by (repeat (first | with_reducible exact Ext.refl _ _ | assumption | with_reducible refine Ext.upN ?_ | with_reducible refine Ext.alloc ?_ _ | with_reducible refine Ext.upA (by assumption) ?_ | with_reducible refine Ext.upW ?_ | with_reducible refine Ext.drew ?_ | with_reducible refine Ext.drewN ?_ _ | with_reducible refine Ext.upF ?_ | with_reducible refine Ext.upFF (by first | omega | simp) ?_ | with_reducible refine Ext.setCellsF _ _ _ (by first | omega | simp) ?_ | with_reducible refine Ext.setCellF _ _ _ (by first | omega | simp) ?_ | with_reducible refine Ext.upFN (by first | omega | simp) ?_ | with_reducible refine Ext.up1F (by first | omega | simp) ?_ | with_reducible refine Ext.up1N (by first | omega | simp) ?_ | with_reducible refine Ext.setCell ?_ (.inr (by first | omega | simp)) _ | refine Ext.alloc ?_ _ | refine Ext.setCellF _ _ _ (by first | omega | simp) ?_ | refine Ext.setCell ?_ (.inr (by first | omega | simp)) _))⟩, by go_num, rfl, by omega, rfl, by omega, Go.Lib.hid (BK.out.extN (by (repeat (first | with_reducible exact Ext.refl _ _ | assumption | with_reducible refine Ext.upN ?_ | with_reducible refine Ext.alloc ?_ _ | with_reducible refine Ext.upA (by assumption) ?_ | with_reducible refine Ext.upW ?_ | with_reducible refine Ext.drew ?_ | with_reducible refine Ext.drewN ?_ _ | with_reducible refine Ext.upF ?_ | with_reducible refine Ext.upFF (by first | omega | simp) ?_ | with_reducible refine Ext.setCellsF _ _ _ (by first | omega | simp) ?_ | with_reducible refine Ext.setCellF _ _ _ (by first | omega | simp) ?_ | with_reducible refine Ext.upFN (by first | omega | simp) ?_ | with_reducible refine Ext.up1F (by first | omega | simp) ?_ | with_reducible refine Ext.up1N (by first | omega | simp) ?_ | with_reducible refine Ext.setCell ?_ (.inr (by first | omega | simp)) _ | refine Ext.alloc ?_ _ | refine Ext.setCellF _ _ _ (by first | omega | simp) ?_ | refine Ext.setCell ?_ (.inr (by first | omega | simp)) _)))), Go.Lib.hid (StabC.nil _ _ _), Go.Lib.hid ⟨fun h => by omega, fun _ => HZ.out⟩⟩
                · have HCL : Hid (cs = kLie ep xs v lies Q) := Go.Lib.hid (by
                    rcases (show k = 0 ∨ k = 1 by omega) with rfl | rfl
                    · have hz : lies.length = 0 := by omega
                      rw [(KK.out.1 rfl).1, List.length_eq_zero_iff.1 hz]; rfl
                    · exact KK.out.2 rfl)
                  rcases (show k = 0 ∨ k = 1 by omega) with rfl | rfl
                  · have hz : lies.length = 0 := by omega
                    have hzi : ¬ (0 : Int) < (lies.length : Int) := by omega
                    clear hz hgo
                    go_wp2_with fail
                    go_meet
                    exact ⟨cs, ca, cc, ⟨_, by (repeat (first | with_reducible exact Ext.refl _ _ | assumption | with_reducible refine Ext.upN ?_ | with_reducible refine Ext.alloc ?_ _ | with_reducible refine Ext.upA (by assumption) ?_ | with_reducible refine Ext.upW ?_ | with_reducible refine Ext.drew ?_ | with_reducible refine Ext.drewN ?_ _ | with_reducible refine Ext.upF ?_ | with_reducible refine Ext.upFF (by first | omega | simp) ?_ | with_reducible refine Ext.setCellsF _ _ _ (by first | omega | simp) ?_ | with_reducible refine Ext.setCellF _ _ _ (by first | omega | simp) ?_ | with_reducible refine Ext.upFN (by first | omega | simp) ?_ | with_reducible refine Ext.up1F (by first | omega | simp) ?_ | with_reducible refine Ext.up1N (by first | omega | simp) ?_ | with_reducible refine Ext.setCell ?_ (.inr (by first | omega | simp)) _ | refine Ext.alloc ?_ _ | refine Ext.setCellF _ _ _ (by first | omega | simp) ?_ | refine Ext.setCell ?_ (.inr (by first | omega | simp)) _))⟩, rfl, Go.Lib.hid (by rw [HCL.out, KCi.out, if_pos HBD.out]), BK, CK⟩
                  · clear hgo
                    by_cases hz : 1 < lies.length
                    · go_wp2_with fail
                      go_meet
                      exact ⟨cs, ca, cc, ⟨_, by (repeat (first | with_reducible exact Ext.refl _ _ | assumption | with_reducible refine Ext.upN ?_ | with_reducible refine Ext.alloc ?_ _ | with_reducible refine Ext.upA (by assumption) ?_ | with_reducible refine Ext.upW ?_ | with_reducible refine Ext.drew ?_ | with_reducible refine Ext.drewN ?_ _ | with_reducible refine Ext.upF ?_ | with_reducible refine Ext.upFF (by first | omega | simp) ?_ | with_reducible refine Ext.setCellsF _ _ _ (by first | omega | simp) ?_ | with_reducible refine Ext.setCellF _ _ _ (by first | omega | simp) ?_ | with_reducible refine Ext.upFN (by first | omega | simp) ?_ | with_reducible refine Ext.up1F (by first | omega | simp) ?_ | with_reducible refine Ext.up1N (by first | omega | simp) ?_ | with_reducible refine Ext.setCell ?_ (.inr (by first | omega | simp)) _ | refine Ext.alloc ?_ _ | refine Ext.setCellF _ _ _ (by first | omega | simp) ?_ | refine Ext.setCell ?_ (.inr (by first | omega | simp)) _))⟩, rfl, Go.Lib.hid (by rw [HCL.out, KCi.out, if_pos HBD.out]), BK, CK⟩
                    · go_wp2_with fail
                      go_meet
                      exact ⟨cs, ca, cc, ⟨_, by (repeat (first | with_reducible exact Ext.refl _ _ | assumption | with_reducible refine Ext.upN ?_ | with_reducible refine Ext.alloc ?_ _ | with_reducible refine Ext.upA (by assumption) ?_ | with_reducible refine Ext.upW ?_ | with_reducible refine Ext.drew ?_ | with_reducible refine Ext.drewN ?_ _ | with_reducible refine Ext.upF ?_ | with_reducible refine Ext.upFF (by first | omega | simp) ?_ | with_reducible refine Ext.setCellsF _ _ _ (by first | omega | simp) ?_ | with_reducible refine Ext.setCellF _ _ _ (by first | omega | simp) ?_ | with_reducible refine Ext.upFN (by first | omega | simp) ?_ | with_reducible refine Ext.up1F (by first | omega | simp) ?_ | with_reducible refine Ext.up1N (by first | omega | simp) ?_ | with_reducible refine Ext.setCell ?_ (.inr (by first | omega | simp)) _ | refine Ext.alloc ?_ _ | refine Ext.setCellF _ _ _ (by first | omega | simp) ?_ | refine Ext.setCell ?_ (.inr (by first | omega | simp)) _))⟩, rfl, Go.Lib.hid (by rw [HCL.out, KCi.out, if_pos HBD.out]), BK, CK⟩
            --D]
          obtain ⟨cs, ca, cc, x10, rfl, HCS, BC, HCC⟩ := hcut
          clear y0 y1 y2 f2 KCi
          have c0 : x10.on.cell? ⟨g13, 0, none⟩ = some (.int .i64 m) := BC.out.cell rfl
          have c1 : x10.on.cell? ⟨g13, 1, none⟩ = some (.int .i64 (v + 1)) := BC.out.cell rfl
          have c2 : x10.on.cell? ⟨g13, 2, none⟩ = some (.slice ca cs.length cc) := BC.out.cell rfl
          have c3 : x10.on.cell? ⟨g13, 3, none⟩ = some (.int .i64 0) := BC.out.cell rfl
          have c4 : x10.on.cell? ⟨g13, 4, none⟩ = some (.string ByteArray.empty) := BC.out.cell rfl
          have hrl : rows.length ≤ i := by have h := congrArg List.length HM.out; simp at h; rw [h]; exact kList_length_le i
          have hw7 : IntKind.i64.wrap ((xs.length : Int) - (i : Int)) = (xs.length : Int) - (i : Int) := IntWalk.i64_in _ (by omega)
          have hw8 : IntKind.i64.wrap ((Q : Int) - (rows.length : Int)) = (Q : Int) - (rows.length : Int) := IntWalk.i64_in _ (by omega)
          have KIN : Hid (kIn xs wb Q i rows.length = (wb i || decide ((xs.length : Int) - i ≤ (Q : Int) - rows.length))) := Go.Lib.hid rfl
          have KST : Hid (kList ep xs v wb bad ⟨kc, ks, ⟨kk, key, real, kid⟩⟩ lies Q (i + 1) = if kIn xs wb Q i rows.length = true then rows.map (·.1) ++ [kCh ep xs v bad ⟨kc, ks, ⟨kk, key, real, kid⟩⟩ lies Q i] else rows.map (·.1)) := Go.Lib.hid (by
            have e : rows.length = (kList ep xs v wb bad ⟨kc, ks, ⟨kk, key, real, kid⟩⟩ lies Q i).length := by have h := congrArg List.length HM.out; simpa using h
            show (if kIn xs wb Q i (kList ep xs v wb bad ⟨kc, ks, ⟨kk, key, real, kid⟩⟩ lies Q i).length = true then _ else _) = _
            rw [← e, HM.out])
          have KCH : Hid (kCh ep xs v bad ⟨kc, ks, ⟨kk, key, real, kid⟩⟩ lies Q i = ⟨m, v + 1, cs, m, chS ep ⟨m, v + 1, cs, 0, ByteArray.empty⟩⟩) := Go.Lib.hid (by unfold kCh; rw [← HCS.out, ← HXI.out])
          by_cases hbit : (IntKind.u64.wrap which / 2 ^ i).tmod 2 = 1
          · have HK1 : Hid (rows.map (·.1) ++ [⟨m, v + 1, cs, m, chS ep ⟨m, v + 1, cs, 0, ByteArray.empty⟩⟩] = kList ep xs v wb bad ⟨kc, ks, ⟨kk, key, real, kid⟩⟩ lies Q (i + 1)) := Go.Lib.hid (by
              rw [KST.out, KIN.out, HWB.out, decide_eq_true hbit, ← KCH.out]; simp)
            have hxs13 : x6.on.heap.size ≤ x10.on.heap.size := by have h1 := x10.ext.size; have h2 := z2.ext.size; omega
            go_wp2_with fail
            refine Calls.ew (law16_signed ep m (v + 1) 0 ByteArray.empty ca cc cs HK.out.1 hc1 (by unfold I64; omega) _ (HCC.out (fun _ => False) _ (by (repeat (first | with_reducible exact Ext.refl _ _ | assumption | with_reducible refine Ext.upN ?_ | with_reducible refine Ext.alloc ?_ _ | with_reducible refine Ext.upA (by assumption) ?_ | with_reducible refine Ext.upW ?_ | with_reducible refine Ext.drew ?_ | with_reducible refine Ext.drewN ?_ _ | with_reducible refine Ext.upF ?_ | with_reducible refine Ext.upFF (by first | omega | simp) ?_ | with_reducible refine Ext.setCellsF _ _ _ (by first | omega | simp) ?_ | with_reducible refine Ext.setCellF _ _ _ (by first | omega | simp) ?_ | with_reducible refine Ext.upFN (by first | omega | simp) ?_ | with_reducible refine Ext.up1F (by first | omega | simp) ?_ | with_reducible refine Ext.up1N (by first | omega | simp) ?_ | with_reducible refine Ext.setCell ?_ (.inr (by first | omega | simp)) _ | refine Ext.alloc ?_ _ | refine Ext.setCellF _ _ _ (by first | omega | simp) ?_ | refine Ext.setCell ?_ (.inr (by first | omega | simp)) _)) : Ext Non x10.on _) (fun _ h => h.elim))) ?_
            rintro e x13 rfl
            have hts := chS_size ep ⟨m, v + 1, cs, 0, ByteArray.empty⟩
            generalize chS ep ⟨m, v + 1, cs, 0, ByteArray.empty⟩ = tx at *
            have HTS := Go.Lib.hid hts
            clear hts
            have hxs6 : x6.on.heap.size ≤ x13.on.heap.size := by have := x13.ext.size; omega
            go_wp2_with (at_builtin; refine wpList_append_row rfl _ _ 37 rfl x6.on.heap.size 26 5 64 _ Try.underlying37 info_change3 (by rfl) (by omega) (by omega) _ rows.length _ rfl (ownR_extN HO.out (by (repeat (first | with_reducible exact Ext.refl _ _ | assumption | with_reducible refine Ext.upN ?_ | with_reducible refine Ext.alloc ?_ _ | with_reducible refine Ext.upA (by assumption) ?_ | with_reducible refine Ext.upW ?_ | with_reducible refine Ext.drew ?_ | with_reducible refine Ext.drewN ?_ _ | with_reducible refine Ext.upF ?_ | with_reducible refine Ext.upFF (by first | omega | simp) ?_ | with_reducible refine Ext.setCellsF _ _ _ (by first | omega | simp) ?_ | with_reducible refine Ext.setCellF _ _ _ (by first | omega | simp) ?_ | with_reducible refine Ext.upFN (by first | omega | simp) ?_ | with_reducible refine Ext.up1F (by first | omega | simp) ?_ | with_reducible refine Ext.up1N (by first | omega | simp) ?_ | with_reducible refine Ext.setCell ?_ (.inr (by first | omega | simp)) _ | refine Ext.alloc ?_ _ | refine Ext.setCellF _ _ _ (by first | omega | simp) ?_ | refine Ext.setCell ?_ (.inr (by first | omega | simp)) _)))) x13.on.heap.size [.int .i64 m, .int .i64 (v + 1), .slice ca cs.length cc, .int .i64 m, .string tx] 26 rfl (Bx.newAt _ _ _ _ rfl) rfl (by simp [Value.oneCell']) (by omega) (by simp; omega) (fun v' W2 hO hrow => ?_); obtain ⟨g, gc, rfl, hgg⟩ := ownR_some hO; have HO2 := Go.Lib.hid hO; have HRW := Go.Lib.hid hrow; clear hO hrow)
            have X1 : Ext Non z2.on (x13.on.alloc (.cells [.int .i64 m, .int .i64 (v + 1), .slice ca cs.length cc, .int .i64 m, .string tx].toArray 26)) := by (repeat (first | with_reducible exact Ext.refl _ _ | assumption | with_reducible refine Ext.upN ?_ | with_reducible refine Ext.alloc ?_ _ | with_reducible refine Ext.upA (by assumption) ?_ | with_reducible refine Ext.upW ?_ | with_reducible refine Ext.drew ?_ | with_reducible refine Ext.drewN ?_ _ | with_reducible refine Ext.upF ?_ | with_reducible refine Ext.upFF (by first | omega | simp) ?_ | with_reducible refine Ext.setCellsF _ _ _ (by first | omega | simp) ?_ | with_reducible refine Ext.setCellF _ _ _ (by first | omega | simp) ?_ | with_reducible refine Ext.upFN (by first | omega | simp) ?_ | with_reducible refine Ext.up1F (by first | omega | simp) ?_ | with_reducible refine Ext.up1N (by first | omega | simp) ?_ | with_reducible refine Ext.setCell ?_ (.inr (by first | omega | simp)) _ | refine Ext.alloc ?_ _ | refine Ext.setCellF _ _ _ (by first | omega | simp) ?_ | refine Ext.setCell ?_ (.inr (by first | omega | simp)) _))
            have X2 : Ext Non x10.on (x13.on.alloc (.cells [.int .i64 m, .int .i64 (v + 1), .slice ca cs.length cc, .int .i64 m, .string tx].toArray 26)) := by (repeat (first | with_reducible exact Ext.refl _ _ | assumption | with_reducible refine Ext.upN ?_ | with_reducible refine Ext.alloc ?_ _ | with_reducible refine Ext.upA (by assumption) ?_ | with_reducible refine Ext.upW ?_ | with_reducible refine Ext.drew ?_ | with_reducible refine Ext.drewN ?_ _ | with_reducible refine Ext.upF ?_ | with_reducible refine Ext.upFF (by first | omega | simp) ?_ | with_reducible refine Ext.setCellsF _ _ _ (by first | omega | simp) ?_ | with_reducible refine Ext.setCellF _ _ _ (by first | omega | simp) ?_ | with_reducible refine Ext.upFN (by first | omega | simp) ?_ | with_reducible refine Ext.up1F (by first | omega | simp) ?_ | with_reducible refine Ext.up1N (by first | omega | simp) ?_ | with_reducible refine Ext.setCell ?_ (.inr (by first | omega | simp)) _ | refine Ext.alloc ?_ _ | refine Ext.setCellF _ _ _ (by first | omega | simp) ?_ | refine Ext.setCell ?_ (.inr (by first | omega | simp)) _))
            have XF : Ext Non x6.on W2.on := ((z2.ext).trans X1).step W2.ext (fun i hi h => by have := (own_row HO.out i h).1; omega)
            have hz2l : z2.on.heap.size ≤ x13.on.heap.size := by have h1 := x10.ext.size; have h2 := x13.ext.size; omega
            have hx10l : x10.on.heap.size ≤ x13.on.heap.size := x13.ext.size
            go_roundg (xs.length - (i + 1))
            case measure => have := HG.out; omega
            case rel =>
              refine ⟨i + 1, rows ++ [(⟨m, v + 1, cs, m, tx⟩, ca, cc)], some ⟨g, 0, none⟩, gc, ⟨_, XF⟩, hlt, rfl, by simp, by go_num, rfl, Go.Lib.hid (by rw [List.length_append, List.flatMap_append]; exact HO2.out), Go.Lib.hid (by rw [List.map_append]; exact HK1.out), Go.Lib.hid (fun q hq w' x => ?_)⟩
              have x' : Ext (Row (.slice (some ⟨g, 0, none⟩) (rows.length + 1) gc)) W2.on w' := by
                have e : (rows ++ [((⟨m, v + 1, cs, m, tx⟩ : Ch), ca, cc)]).length = rows.length + 1 := by simp
                rw [e] at x; exact x
              rcases List.mem_append.1 hq with hq | hq
              · exact HA.out q hq w' ((X1.ofNon.trans W2.ext).step x' (fun i hi h => by
                  rcases HRW.out i h with h | h
                  · exact h
                  · simp at h; omega))
              · simp at hq; subst hq
                have y : Ext (Row (.slice la rows.length lc)) x10.on w' := (X2.ofNon.trans W2.ext).step x' (fun i hi h => by
                  rcases HRW.out i h with h | h
                  · exact h
                  · simp at h; omega)
                exact ⟨HCC.out _ w' y (fun k h => own_row HO.out k h), hc1, by show I64 (v + 1); unfold I64; omega, hc1, HTS.out⟩
          · by_cases hle : (xs.length : Int) - i ≤ (Q : Int) - rows.length
            ·
              --D[
              have HK1 : Hid (rows.map (·.1) ++ [⟨m, v + 1, cs, m, chS ep ⟨m, v + 1, cs, 0, ByteArray.empty⟩⟩] = kList ep xs v wb bad ⟨kc, ks, ⟨kk, key, real, kid⟩⟩ lies Q (i + 1)) := Go.Lib.hid (by
                rw [KST.out, KIN.out, HWB.out, decide_eq_false hbit, decide_eq_true hle, ← KCH.out]; simp)
              have hxs13 : x6.on.heap.size ≤ x10.on.heap.size := by have h1 := x10.ext.size; have h2 := z2.ext.size; omega
              go_wp2_with fail
              refine Calls.ew (law16_signed ep m (v + 1) 0 ByteArray.empty ca cc cs HK.out.1 hc1 (by unfold I64; omega) _ (HCC.out (fun _ => False) _ (by (repeat (first | with_reducible exact Ext.refl _ _ | assumption | with_reducible refine Ext.upN ?_ | with_reducible refine Ext.alloc ?_ _ | with_reducible refine Ext.upA (by assumption) ?_ | with_reducible refine Ext.upW ?_ | with_reducible refine Ext.drew ?_ | with_reducible refine Ext.drewN ?_ _ | with_reducible refine Ext.upF ?_ | with_reducible refine Ext.upFF (by first | omega | simp) ?_ | with_reducible refine Ext.setCellsF _ _ _ (by first | omega | simp) ?_ | with_reducible refine Ext.setCellF _ _ _ (by first | omega | simp) ?_ | with_reducible refine Ext.upFN (by first | omega | simp) ?_ | with_reducible refine Ext.up1F (by first | omega | simp) ?_ | with_reducible refine Ext.up1N (by first | omega | simp) ?_ | with_reducible refine Ext.setCell ?_ (.inr (by first | omega | simp)) _ | refine Ext.alloc ?_ _ | refine Ext.setCellF _ _ _ (by first | omega | simp) ?_ | refine Ext.setCell ?_ (.inr (by first | omega | simp)) _)) : Ext Non x10.on _) (fun _ h => h.elim))) ?_
              rintro e x13 rfl
              have hts := chS_size ep ⟨m, v + 1, cs, 0, ByteArray.empty⟩
              generalize chS ep ⟨m, v + 1, cs, 0, ByteArray.empty⟩ = tx at *
              have HTS := Go.Lib.hid hts
              clear hts
              have hxs6 : x6.on.heap.size ≤ x13.on.heap.size := by have := x13.ext.size; omega
              go_wp2_with (at_builtin; refine wpList_append_row rfl _ _ 37 rfl x6.on.heap.size 26 5 64 _ Try.underlying37 info_change3 (by rfl) (by omega) (by omega) _ rows.length _ rfl (ownR_extN HO.out (by (repeat (first | with_reducible exact Ext.refl _ _ | assumption | with_reducible refine Ext.upN ?_ | with_reducible refine Ext.alloc ?_ _ | with_reducible refine Ext.upA (by assumption) ?_ | with_reducible refine Ext.upW ?_ | with_reducible refine Ext.drew ?_ | with_reducible refine Ext.drewN ?_ _ | with_reducible refine Ext.upF ?_ | with_reducible refine Ext.upFF (by first | omega | simp) ?_ | with_reducible refine Ext.setCellsF _ _ _ (by first | omega | simp) ?_ | with_reducible refine Ext.setCellF _ _ _ (by first | omega | simp) ?_ | with_reducible refine Ext.upFN (by first | omega | simp) ?_ | with_reducible refine Ext.up1F (by first | omega | simp) ?_ | with_reducible refine Ext.up1N (by first | omega | simp) ?_ | with_reducible refine Ext.setCell ?_ (.inr (by first | omega | simp)) _ | refine Ext.alloc ?_ _ | refine Ext.setCellF _ _ _ (by first | omega | simp) ?_ | refine Ext.setCell ?_ (.inr (by first | omega | simp)) _)))) x13.on.heap.size [.int .i64 m, .int .i64 (v + 1), .slice ca cs.length cc, .int .i64 m, .string tx] 26 rfl (Bx.newAt _ _ _ _ rfl) rfl (by simp [Value.oneCell']) (by omega) (by simp; omega) (fun v' W2 hO hrow => ?_); obtain ⟨g, gc, rfl, hgg⟩ := ownR_some hO; have HO2 := Go.Lib.hid hO; have HRW := Go.Lib.hid hrow; clear hO hrow)
              have X1 : Ext Non z2.on (x13.on.alloc (.cells [.int .i64 m, .int .i64 (v + 1), .slice ca cs.length cc, .int .i64 m, .string tx].toArray 26)) := by (repeat (first | with_reducible exact Ext.refl _ _ | assumption | with_reducible refine Ext.upN ?_ | with_reducible refine Ext.alloc ?_ _ | with_reducible refine Ext.upA (by assumption) ?_ | with_reducible refine Ext.upW ?_ | with_reducible refine Ext.drew ?_ | with_reducible refine Ext.drewN ?_ _ | with_reducible refine Ext.upF ?_ | with_reducible refine Ext.upFF (by first | omega | simp) ?_ | with_reducible refine Ext.setCellsF _ _ _ (by first | omega | simp) ?_ | with_reducible refine Ext.setCellF _ _ _ (by first | omega | simp) ?_ | with_reducible refine Ext.upFN (by first | omega | simp) ?_ | with_reducible refine Ext.up1F (by first | omega | simp) ?_ | with_reducible refine Ext.up1N (by first | omega | simp) ?_ | with_reducible refine Ext.setCell ?_ (.inr (by first | omega | simp)) _ | refine Ext.alloc ?_ _ | refine Ext.setCellF _ _ _ (by first | omega | simp) ?_ | refine Ext.setCell ?_ (.inr (by first | omega | simp)) _))
              have X2 : Ext Non x10.on (x13.on.alloc (.cells [.int .i64 m, .int .i64 (v + 1), .slice ca cs.length cc, .int .i64 m, .string tx].toArray 26)) := by (repeat (first | with_reducible exact Ext.refl _ _ | assumption | with_reducible refine Ext.upN ?_ | with_reducible refine Ext.alloc ?_ _ | with_reducible refine Ext.upA (by assumption) ?_ | with_reducible refine Ext.upW ?_ | with_reducible refine Ext.drew ?_ | with_reducible refine Ext.drewN ?_ _ | with_reducible refine Ext.upF ?_ | with_reducible refine Ext.upFF (by first | omega | simp) ?_ | with_reducible refine Ext.setCellsF _ _ _ (by first | omega | simp) ?_ | with_reducible refine Ext.setCellF _ _ _ (by first | omega | simp) ?_ | with_reducible refine Ext.upFN (by first | omega | simp) ?_ | with_reducible refine Ext.up1F (by first | omega | simp) ?_ | with_reducible refine Ext.up1N (by first | omega | simp) ?_ | with_reducible refine Ext.setCell ?_ (.inr (by first | omega | simp)) _ | refine Ext.alloc ?_ _ | refine Ext.setCellF _ _ _ (by first | omega | simp) ?_ | refine Ext.setCell ?_ (.inr (by first | omega | simp)) _))
              have XF : Ext Non x6.on W2.on := ((z2.ext).trans X1).step W2.ext (fun i hi h => by have := (own_row HO.out i h).1; omega)
              have hz2l : z2.on.heap.size ≤ x13.on.heap.size := by have h1 := x10.ext.size; have h2 := x13.ext.size; omega
              have hx10l : x10.on.heap.size ≤ x13.on.heap.size := x13.ext.size
              go_roundg (xs.length - (i + 1))
              case measure => have := HG.out; omega
              case rel =>
                refine ⟨i + 1, rows ++ [(⟨m, v + 1, cs, m, tx⟩, ca, cc)], some ⟨g, 0, none⟩, gc, ⟨_, XF⟩, hlt, rfl, by simp, by go_num, rfl, Go.Lib.hid (by rw [List.length_append, List.flatMap_append]; exact HO2.out), Go.Lib.hid (by rw [List.map_append]; exact HK1.out), Go.Lib.hid (fun q hq w' x => ?_)⟩
                have x' : Ext (Row (.slice (some ⟨g, 0, none⟩) (rows.length + 1) gc)) W2.on w' := by
                  have e : (rows ++ [((⟨m, v + 1, cs, m, tx⟩ : Ch), ca, cc)]).length = rows.length + 1 := by simp
                  rw [e] at x; exact x
                rcases List.mem_append.1 hq with hq | hq
                · exact HA.out q hq w' ((X1.ofNon.trans W2.ext).step x' (fun i hi h => by
                    rcases HRW.out i h with h | h
                    · exact h
                    · simp at h; omega))
                · simp at hq; subst hq
                  have y : Ext (Row (.slice la rows.length lc)) x10.on w' := (X2.ofNon.trans W2.ext).step x' (fun i hi h => by
                    rcases HRW.out i h with h | h
                    · exact h
                    · simp at h; omega)
                  exact ⟨HCC.out _ w' y (fun k h => own_row HO.out k h), hc1, by show I64 (v + 1); unfold I64; omega, hc1, HTS.out⟩
              --D]
            · have HK0 : Hid (rows.map (·.1) = kList ep xs v wb bad ⟨kc, ks, ⟨kk, key, real, kid⟩⟩ lies Q (i + 1)) := Go.Lib.hid (by
                rw [KST.out, KIN.out, HWB.out, decide_eq_false hbit, decide_eq_false hle]; rfl)
              go_wp2_with fail
              go_roundg (xs.length - (i + 1))
              case measure => have := HG.out; omega
              case rel => exact ⟨i + 1, rows, la, lc, ⟨_, by (repeat (first | with_reducible exact Ext.refl _ _ | assumption | with_reducible refine Ext.upN ?_ | with_reducible refine Ext.alloc ?_ _ | with_reducible refine Ext.upA (by assumption) ?_ | with_reducible refine Ext.upW ?_ | with_reducible refine Ext.drew ?_ | with_reducible refine Ext.drewN ?_ _ | with_reducible refine Ext.upF ?_ | with_reducible refine Ext.upFF (by first | omega | simp) ?_ | with_reducible refine Ext.setCellsF _ _ _ (by first | omega | simp) ?_ | with_reducible refine Ext.setCellF _ _ _ (by first | omega | simp) ?_ | with_reducible refine Ext.upFN (by first | omega | simp) ?_ | with_reducible refine Ext.up1F (by first | omega | simp) ?_ | with_reducible refine Ext.up1N (by first | omega | simp) ?_ | with_reducible refine Ext.setCell ?_ (.inr (by first | omega | simp)) _ | refine Ext.alloc ?_ _ | refine Ext.setCellF _ _ _ (by first | omega | simp) ?_ | refine Ext.setCell ?_ (.inr (by first | omega | simp)) _))⟩, hlt, rfl, rfl, by go_num, rfl, Go.Lib.hid (ownR_extN HO.out (by (repeat (first | with_reducible exact Ext.refl _ _ | assumption | with_reducible refine Ext.upN ?_ | with_reducible refine Ext.alloc ?_ _ | with_reducible refine Ext.upA (by assumption) ?_ | with_reducible refine Ext.upW ?_ | with_reducible refine Ext.drew ?_ | with_reducible refine Ext.drewN ?_ _ | with_reducible refine Ext.upF ?_ | with_reducible refine Ext.upFF (by first | omega | simp) ?_ | with_reducible refine Ext.setCellsF _ _ _ (by first | omega | simp) ?_ | with_reducible refine Ext.setCellF _ _ _ (by first | omega | simp) ?_ | with_reducible refine Ext.upFN (by first | omega | simp) ?_ | with_reducible refine Ext.up1F (by first | omega | simp) ?_ | with_reducible refine Ext.up1N (by first | omega | simp) ?_ | with_reducible refine Ext.setCell ?_ (.inr (by first | omega | simp)) _ | refine Ext.alloc ?_ _ | refine Ext.setCellF _ _ _ (by first | omega | simp) ?_ | refine Ext.setCell ?_ (.inr (by first | omega | simp)) _)))), HK0, Go.Lib.hid (fun q hq w' x => HA.out q hq w' ((by (repeat (first | with_reducible exact Ext.refl _ _ | assumption | with_reducible refine Ext.upN ?_ | with_reducible refine Ext.alloc ?_ _ | with_reducible refine Ext.upA (by assumption) ?_ | with_reducible refine Ext.upW ?_ | with_reducible refine Ext.drew ?_ | with_reducible refine Ext.drewN ?_ _ | with_reducible refine Ext.upF ?_ | with_reducible refine Ext.upFF (by first | omega | simp) ?_ | with_reducible refine Ext.setCellsF _ _ _ (by first | omega | simp) ?_ | with_reducible refine Ext.setCellF _ _ _ (by first | omega | simp) ?_ | with_reducible refine Ext.upFN (by first | omega | simp) ?_ | with_reducible refine Ext.up1F (by first | omega | simp) ?_ | with_reducible refine Ext.up1N (by first | omega | simp) ?_ | with_reducible refine Ext.setCell ?_ (.inr (by first | omega | simp)) _ | refine Ext.alloc ?_ _ | refine Ext.setCellF _ _ _ (by first | omega | simp) ?_ | refine Ext.setCell ?_ (.inr (by first | omega | simp)) _)) : Ext Non z2.on x10.on).ofNon.step x (fun _ _ h => h)))⟩
          --D]
        · obtain rfl : i = xs.length := by omega
          obtain ⟨pa, pc, hpe, hCh⟩ := chs_of_own rows HO.out (fun q hq => HA.out q hq _ (Ext.refl _ _))
          injection hpe with e1 e2 e3
          subst e1; subst e3
          rw [HM.out] at hCh
          have HCh := Go.Lib.hid hCh
          have LW := LAW.out wb
          have hll : (kList ep xs v wb bad ⟨kc, ks, ⟨kk, key, real, kid⟩⟩ lies Q xs.length).length = rows.length := by have h := congrArg List.length HM.out; simp at h; exact h.symm
          have PC : Hid (∀ w', Ints w' a cap xs → Chs w' la lc (kList ep xs v wb bad ⟨kc, ks, ⟨kk, key, real, kid⟩⟩ lies Q xs.length) → Calls Try.prog 19 #[.agg #[.int .i64 ep, .slice a xs.length cap], .int .i64 (v + 1), .slice la rows.length lc] w' fun e w'' =>
              ∃ ra rcap, e = .returned (.tuple #[.slice ra (pickL ep xs (v + 1) (kList ep xs v wb bad ⟨kc, ks, ⟨kk, key, real, kid⟩⟩ lies Q xs.length)).length rcap, .int .i64 (checkE ep xs (v + 1) (kList ep xs v wb bad ⟨kc, ks, ⟨kk, key, real, kid⟩⟩ lies Q xs.length))]) ∧ Reqs w'' ra rcap (pickL ep xs (v + 1) (kList ep xs v wb bad ⟨kc, ks, ⟨kk, key, real, kid⟩⟩ lies Q xs.length)) ∧ Ext Non w' w'') := Go.Lib.hid (fun w' h1 h2 => by
            have := change_Pick ep a cap xs (v + 1) la lc _ HK.out.1 w' h1 h2
            rw [hll] at this
            refine this.mono ?_
            rintro e w'' ⟨pv, rfl, hO, hx⟩
            obtain ⟨ra, rcap, rfl, hR⟩ := reqs_of_own hO
            exact ⟨ra, rcap, rfl, hR, hx⟩)
          have hw6 : IntKind.i64.wrap (v + 1) = v + 1 := IntWalk.i64_in _ (by omega)
          have HPL : Hid (checkE ep xs (v + 1) (kList ep xs v wb bad ⟨kc, ks, ⟨kk, key, real, kid⟩⟩ lies Q xs.length) = 0 → pickL ep xs (v + 1) (kList ep xs v wb bad ⟨kc, ks, ⟨kk, key, real, kid⟩⟩ lies Q xs.length) = pickR ep (kList ep xs v wb bad ⟨kc, ks, ⟨kk, key, real, kid⟩⟩ lies Q xs.length)) := Go.Lib.hid (fun h => if_pos h)
          clear hCh LAW KC
          generalize kList ep xs v wb bad ⟨kc, ks, ⟨kk, key, real, kid⟩⟩ lies Q xs.length = L at *
          have HLW := Go.Lib.hid LW
          clear LW hll
          go_wp2_with fail
          refine (PC.out _ (HX.out.extN (by (repeat (first | with_reducible exact Ext.refl _ _ | assumption | with_reducible refine Ext.upN ?_ | with_reducible refine Ext.alloc ?_ _ | with_reducible refine Ext.upA (by assumption) ?_ | with_reducible refine Ext.upW ?_ | with_reducible refine Ext.drew ?_ | with_reducible refine Ext.drewN ?_ _ | with_reducible refine Ext.upF ?_ | with_reducible refine Ext.upFF (by first | omega | simp) ?_ | with_reducible refine Ext.setCellsF _ _ _ (by first | omega | simp) ?_ | with_reducible refine Ext.setCellF _ _ _ (by first | omega | simp) ?_ | with_reducible refine Ext.upFN (by first | omega | simp) ?_ | with_reducible refine Ext.up1F (by first | omega | simp) ?_ | with_reducible refine Ext.up1N (by first | omega | simp) ?_ | with_reducible refine Ext.setCell ?_ (.inr (by first | omega | simp)) _ | refine Ext.alloc ?_ _ | refine Ext.setCellF _ _ _ (by first | omega | simp) ?_ | refine Ext.setCell ?_ (.inr (by first | omega | simp)) _)))) (HCh.out.extN (by (repeat (first | with_reducible exact Ext.refl _ _ | assumption | with_reducible refine Ext.upN ?_ | with_reducible refine Ext.alloc ?_ _ | with_reducible refine Ext.upA (by assumption) ?_ | with_reducible refine Ext.upW ?_ | with_reducible refine Ext.drew ?_ | with_reducible refine Ext.drewN ?_ _ | with_reducible refine Ext.upF ?_ | with_reducible refine Ext.upFF (by first | omega | simp) ?_ | with_reducible refine Ext.setCellsF _ _ _ (by first | omega | simp) ?_ | with_reducible refine Ext.setCellF _ _ _ (by first | omega | simp) ?_ | with_reducible refine Ext.upFN (by first | omega | simp) ?_ | with_reducible refine Ext.up1F (by first | omega | simp) ?_ | with_reducible refine Ext.up1N (by first | omega | simp) ?_ | with_reducible refine Ext.setCell ?_ (.inr (by first | omega | simp)) _ | refine Ext.alloc ?_ _ | refine Ext.setCellF _ _ _ (by first | omega | simp) ?_ | refine Ext.setCell ?_ (.inr (by first | omega | simp)) _))))).mono ?_
          rintro e _ ⟨ra, rcap, rfl, hR, hx⟩
          obtain ⟨x14, rfl⟩ := hx.ew
          clear hx
          rcases HLW.out with ⟨h0, hp⟩ | ⟨h1, hne⟩
          · rw [HPL.out h0, hp] at hR ⊢
            rw [h0]
            obtain ⟨rb0, ro0, rfl, hrb0, k0⟩ := hR.at_ 0 (by simp)
            obtain ⟨rb1, ro1, e1, hrb1, k1⟩ := hR.at_ 1 (by simp)
            injection e1 with e1; injection e1 with e1 e2; subst e1; subst e2
            have n0 : x14.on.cell? ⟨rb0, ro0, none⟩ = some (.int .i64 0) := k0 0 _ rfl
            have n1 : x14.on.cell? ⟨rb0, ro0 + 1, none⟩ = some (.int .i64 0) := k0 1 _ rfl
            have n2 : x14.on.cell? ⟨rb0, ro0 + 2, none⟩ = some (.int .i64 0) := k0 2 _ rfl
            have n3 : x14.on.cell? ⟨rb0, ro0 + 3, none⟩ = some (.string ByteArray.empty) := k0 3 _ rfl
            have n4 : x14.on.cell? ⟨rb0, ro0 + 4, none⟩ = some (.float .f64 0) := k0 4 _ rfl
            have n5 : x14.on.cell? ⟨rb0, ro0 + 5, none⟩ = some (.int .i64 0) := k0 5 _ rfl
            have q0 : x14.on.cell? ⟨rb0, ro0 + 6, none⟩ = some (.int .i64 kc) := k1 0 _ rfl
            have q1 : x14.on.cell? ⟨rb0, ro0 + 7, none⟩ = some (.int .i64 ks) := k1 1 _ rfl
            have q2 : x14.on.cell? ⟨rb0, ro0 + 8, none⟩ = some (.int .i64 kk) := k1 2 _ rfl
            have q3 : x14.on.cell? ⟨rb0, ro0 + 9, none⟩ = some (.string key) := k1 3 _ rfl
            have q4 : x14.on.cell? ⟨rb0, ro0 + 10, none⟩ = some (.float .f64 real) := k1 4 _ rfl
            have q5 : x14.on.cell? ⟨rb0, ro0 + 11, none⟩ = some (.int .i64 kid) := k1 5 _ rfl
            have hcap : 2 ≤ rcap := by have := hR.le; simpa using this
            have hcap2 : rcap ≤ 9223372036854775807 := hR.small
            clear k0 k1 hR h0 hp HLW
            have hsame : sameT ⟨kc, ks, ⟨kk, key, real, kid⟩⟩ ⟨kc, ks, ⟨kk, key, real, kid⟩⟩ = true := by
              have h := HR.out
              unfold sameT reqE
              rw [if_pos h]
              simp
            have HSM := Go.Lib.hid hsame
            clear hsame
            go_upto_region 36 with fail
            (refine wp_region_ext_lit (by kernel_rfl) (by kernel_rfl) ?_; (repeat (go_big_quiet_step ((first | (go_at_call 31; exact Calls.ext_ofv (ref_Null 0 0 0 ByteArray.empty 0 0 _) (congrArg Value.bool null_nullR)) | (go_at_call 32; exact Calls.ext_ofv (ref11_Same kc ks kk key real kid kc ks kk key real kid HK.out.2.2.2 HK.out.2.2.2 _) (congrArg Value.bool HSM.out)))))); refine wpQuiet_nil ?_; intro _ hw'; obtain ⟨xq, hw''⟩ := hw'; subst hw'')
            go_wp2
            go_ret
            exact ⟨rfl, by (repeat (first | with_reducible exact Ext.refl _ _ | assumption | with_reducible refine Ext.upN ?_ | with_reducible refine Ext.alloc ?_ _ | with_reducible refine Ext.upA (by assumption) ?_ | with_reducible refine Ext.upW ?_ | with_reducible refine Ext.drew ?_ | with_reducible refine Ext.drewN ?_ _ | with_reducible refine Ext.upF ?_ | with_reducible refine Ext.upFF (by first | omega | simp) ?_ | with_reducible refine Ext.setCellsF _ _ _ (by first | omega | simp) ?_ | with_reducible refine Ext.setCellF _ _ _ (by first | omega | simp) ?_ | with_reducible refine Ext.upFN (by first | omega | simp) ?_ | with_reducible refine Ext.up1F (by first | omega | simp) ?_ | with_reducible refine Ext.up1N (by first | omega | simp) ?_ | with_reducible refine Ext.setCell ?_ (.inr (by first | omega | simp)) _ | refine Ext.alloc ?_ _ | refine Ext.setCellF _ _ _ (by first | omega | simp) ?_ | refine Ext.setCell ?_ (.inr (by first | omega | simp)) _))⟩
          · rw [h1]
            have hlp : decide (0 < lies.length) = true := by
              cases lies with
              | nil => exact absurd rfl hne
              | cons z t => simp
            clear h1 hne HLW
            generalize pickL ep xs (v + 1) L = pl at *
            go_wp2
            go_ret
            exact ⟨rfl, by (repeat (first | with_reducible exact Ext.refl _ _ | assumption | with_reducible refine Ext.upN ?_ | with_reducible refine Ext.alloc ?_ _ | with_reducible refine Ext.upA (by assumption) ?_ | with_reducible refine Ext.upW ?_ | with_reducible refine Ext.drew ?_ | with_reducible refine Ext.drewN ?_ _ | with_reducible refine Ext.upF ?_ | with_reducible refine Ext.upFF (by first | omega | simp) ?_ | with_reducible refine Ext.setCellsF _ _ _ (by first | omega | simp) ?_ | with_reducible refine Ext.setCellF _ _ _ (by first | omega | simp) ?_ | with_reducible refine Ext.upFN (by first | omega | simp) ?_ | with_reducible refine Ext.up1F (by first | omega | simp) ?_ | with_reducible refine Ext.up1N (by first | omega | simp) ?_ | with_reducible refine Ext.setCell ?_ (.inr (by first | omega | simp)) _ | refine Ext.alloc ?_ _ | refine Ext.setCellF _ _ _ (by first | omega | simp) ?_ | refine Ext.setCell ?_ (.inr (by first | omega | simp)) _))⟩
set_option maxRecDepth 100000 in
open Go.ChangeShapes Go.WideShapes in
theorem law_ChangeKeeps {H : Type} {enc : TypeId × Value → H} (W : World) {base : Nat} (v0 : Value) (d0 : DataW H) (p0 : List MemPlace) (v1 : Value) (d1 : DataW H) (p1 : List MemPlace)
    (h0 : DataW.Trod enc Try.prog W 0 (fun _ => true) true 34 v0 d0 p0) (ok0 : Value.okWide Try.prog W .any base 34 v0)
    (h1 : DataW.Trod enc Try.prog W 0 (fun _ => true) true 59 v1 d1 p1) (ok1 : Value.okWide Try.prog W .any base 59 v1) :
    Calls Try.prog 7 #[v0, v1] W fun e w' => e = .returned (.bool true) ∧ Below W.heap.size W w' := by
  obtain ⟨ep, a, cap, xs, rfl, hep, hi, _⟩ := arg_conf ok0 h0
  obtain ⟨cs, rfl, n, x, hx⟩ := arg_struct Try.underlying59 ok1 h1
  obtain ⟨hl, hf⟩ := read_struct Try.underlying59 hx
  have hl : cs.length = 10 := hl.trans (by kernel_rfl)
  match cs, hl with
  | [u0, u1, u2, u3, u4, u5, u6, u7, u8, u9], _ =>
    obtain ⟨_, _, g0⟩ := hf 0 _ 3 0 1 rfl rfl rfl c_int
    obtain ⟨_, _, g1⟩ := hf 1 _ 3 1 1 rfl rfl rfl c_int
    obtain ⟨_, _, g2⟩ := hf 2 _ 32 2 1 rfl rfl rfl c_ints
    obtain ⟨_, _, g3⟩ := hf 3 _ 57 3 6 rfl rfl rfl (by kernel_rfl)
    obtain ⟨_, _, g4⟩ := hf 4 _ 22 9 1 rfl rfl rfl c_certs
    obtain ⟨v, q0, i0⟩ := read_int g0
    obtain ⟨which, q1, i1⟩ := read_int g1
    obtain ⟨ba, bcap, bad, q2, hb, _⟩ := read_ints g2
    obtain ⟨kc, ks, kk, key, bits, kid, q3, hask⟩ := read_ask g3
    obtain ⟨za, zcap, lies, q4, hz⟩ := read_certs g4
    simp at q0 q1 q2 q3 q4
    obtain ⟨rfl, rfl, rfl, rfl, rfl, rfl⟩ := q3
    subst q0; subst q1; subst q2; subst q4
    exact (walk_ChangeKeeps ep a cap xs v which ba bcap bad kc ks kk key bits kid za zcap lies ⟨hep, i0, i1, hask⟩ W hi hb hz).mono fun _ _ ⟨a, b⟩ => ⟨a, b.toBelow⟩
end Go.Proofs.Ytakbkpklfihfiaa
