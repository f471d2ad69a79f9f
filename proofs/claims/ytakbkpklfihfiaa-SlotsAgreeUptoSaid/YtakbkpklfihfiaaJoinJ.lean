/- Joined texts: Law16, Lives16, Read16, Ask. What each proves stands at its head; no conditions beside those in its theorems. -/
import Derived.Test.YtakbkpklfihfiaaJoinI
import Derived.Test.YtakbkpklfihfiaaJoinB
import Derived.Test.YtakbkpklfihfiaaJoinH
/- Contracts of layer 16's law functions: four, signed. -/
namespace Go.Proofs.Ytakbkpklfihfiaa
open Go.RowKit Go.Lib F64
set_option linter.unusedSimpArgs false
set_option linter.unusedVariables false
attribute [local go_sem] run_store_float
attribute [local go_sem low] EW.cellN EW.frozN alloc_cell_or alloc_froz_or EW.cellF EW.frozF EW.cell1 EW.froz1
attribute [local go_sem] relAt relUpon
theorem ints_box (w : World) (xs : List Int) (t : TypeId) (k : Nat) (h : Bx w k (xs.map (Value.int .i64)) t) (hm : xs.length ≤ 9223372036854775807) (hx : ∀ x ∈ xs, I64 x) : Ints w (some ⟨k, 0, none⟩) xs.length xs :=
  ⟨Nat.le_refl _, hm, (fun e => by cases e), fun j hj => ⟨k, 0, rfl, by rw [Nat.zero_add]; exact h.cell (by rw [List.getElem?_map, List.getElem?_eq_getElem hj]; rfl), hx _ (List.getElem_mem hj)⟩⟩
set_option maxRecDepth 100000 in
theorem law16_four (w : World) : Calls Try.prog 55 #[] w fun e w' => ∃ b, e = .returned (.agg #[.int .i64 0, .slice (some ⟨b, 0, none⟩) 4 4]) ∧ Ints w' (some ⟨b, 0, none⟩) 4 [0, 1, 2, 3] ∧ Ext Non w w' := by
  go_enter Try.func55, Try.ntmps55
  go_wp2
  go_returns
  refine ⟨w.heap.size + 1, rfl, ints_box _ [0, 1, 2, 3] _ _ (Bx.newAt _ _ _ _ (by simp)) (by decide) (by intro x hx; simp at hx; unfold I64; omega), by (repeat (first | with_reducible exact Ext.refl _ _ | assumption | with_reducible refine Ext.upN ?_ | with_reducible refine Ext.alloc ?_ _ | with_reducible refine Ext.upA (by assumption) ?_ | with_reducible refine Ext.upW ?_ | with_reducible refine Ext.drew ?_ | with_reducible refine Ext.drewN ?_ _ | with_reducible refine Ext.upF ?_ | with_reducible refine Ext.upFF (by first | omega | simp) ?_ | with_reducible refine Ext.setCellsF _ _ _ (by first | omega | simp) ?_ | with_reducible refine Ext.setCellF _ _ _ (by first | omega | simp) ?_ | with_reducible refine Ext.upFN (by first | omega | simp) ?_ | with_reducible refine Ext.up1F (by first | omega | simp) ?_ | with_reducible refine Ext.up1N (by first | omega | simp) ?_ | with_reducible refine Ext.setCell ?_ (.inr (by first | omega | simp)) _ | refine Ext.alloc ?_ _ | refine Ext.setCellF _ _ _ (by first | omega | simp) ?_ | refine Ext.setCell ?_ (.inr (by first | omega | simp)) _))⟩
set_option maxHeartbeats 1000000 in
set_option maxRecDepth 100000 in
theorem law16_signed (epoch from_ view by_ : Int) (text : ByteArray) (ca : Option Addr) (ccap : Nat) (certs : List Ct) (hie : I64 epoch) (hif : I64 from_) (hiv : I64 view) (w : World) (h : Certs w ca ccap certs) :
    Calls Try.prog 30 #[.int .i64 epoch, .agg #[.int .i64 from_, .int .i64 view, .slice ca certs.length ccap, .int .i64 by_, .string text]] w fun e w' =>
    e = .returned (.agg #[.int .i64 from_, .int .i64 view, .slice ca certs.length ccap, .int .i64 from_, .string (chS epoch ⟨from_, view, certs, by_, text⟩)]) ∧ Ext Non w w' := by
  have HH := Go.Lib.hid h; clear h
  go_enter Try.func30, Try.ntmps30
  go_wp2_with fail
  refine Calls.ew (ref16_Text epoch from_ view by_ text ca ccap certs hie hif hiv _ (HH.out.extN (by (repeat (first | with_reducible exact Ext.refl _ _ | assumption | with_reducible refine Ext.upN ?_ | with_reducible refine Ext.alloc ?_ _ | with_reducible refine Ext.upA (by assumption) ?_ | with_reducible refine Ext.upW ?_ | with_reducible refine Ext.drew ?_ | with_reducible refine Ext.drewN ?_ _ | with_reducible refine Ext.upF ?_ | with_reducible refine Ext.upFF (by first | omega | simp) ?_ | with_reducible refine Ext.setCellsF _ _ _ (by first | omega | simp) ?_ | with_reducible refine Ext.setCellF _ _ _ (by first | omega | simp) ?_ | with_reducible refine Ext.upFN (by first | omega | simp) ?_ | with_reducible refine Ext.up1F (by first | omega | simp) ?_ | with_reducible refine Ext.up1N (by first | omega | simp) ?_ | with_reducible refine Ext.setCell ?_ (.inr (by first | omega | simp)) _ | refine Ext.alloc ?_ _ | refine Ext.setCellF _ _ _ (by first | omega | simp) ?_ | refine Ext.setCell ?_ (.inr (by first | omega | simp)) _))))) ?_
  rintro e x1 rfl
  generalize hts : chS epoch ⟨from_, view, certs, by_, text⟩ = ts at *
  have HTS := Go.Lib.hid hts; clear hts
  generalize chE epoch ⟨from_, view, certs, by_, text⟩ = te at *
  go_wp2
  go_returns
  exact ⟨by rw [HTS.out], by (repeat (first | with_reducible exact Ext.refl _ _ | assumption | with_reducible refine Ext.upN ?_ | with_reducible refine Ext.alloc ?_ _ | with_reducible refine Ext.upA (by assumption) ?_ | with_reducible refine Ext.upW ?_ | with_reducible refine Ext.drew ?_ | with_reducible refine Ext.drewN ?_ _ | with_reducible refine Ext.upF ?_ | with_reducible refine Ext.upFF (by first | omega | simp) ?_ | with_reducible refine Ext.setCellsF _ _ _ (by first | omega | simp) ?_ | with_reducible refine Ext.setCellF _ _ _ (by first | omega | simp) ?_ | with_reducible refine Ext.upFN (by first | omega | simp) ?_ | with_reducible refine Ext.up1F (by first | omega | simp) ?_ | with_reducible refine Ext.up1N (by first | omega | simp) ?_ | with_reducible refine Ext.setCell ?_ (.inr (by first | omega | simp)) _ | refine Ext.alloc ?_ _ | refine Ext.setCellF _ _ _ (by first | omega | simp) ?_ | refine Ext.setCell ?_ (.inr (by first | omega | simp)) _))⟩
theorem Sigs.ext {S : Nat → Prop} {w w' : World} {a : Option Addr} {cap : Nat} {l : List Sg} (h : Sigs w a cap l) (x : Ext S w w') (hs : ∀ b o, a = some ⟨b, o, none⟩ → ¬ S b) : Sigs w' a cap l :=
  ⟨h.le, h.small, fun j hj => by
    obtain ⟨b, o, e, hb, c0, c1, r⟩ := h.at_ j hj
    exact ⟨b, o, e, Nat.lt_of_lt_of_le hb x.size, (x.cell (p := ⟨b, o + j * 2, none⟩) hb (hs b o e)).trans c0, (x.cell (p := ⟨b, o + j * 2 + 1, none⟩) hb (hs b o e)).trans c1, r⟩⟩
theorem prepS_size (e v sl : Int) (r : Req) : (prepS e v sl r).size ≤ 100 := by
  have h := reqS_size r
  unfold reqS at h
  have h1 : (reqL r).length ≤ 34 := by simpa [ByteArray.size] using h
  unfold prepS prepL
  split
  · show (headL 80 e v sl ++ reqL r).toArray.size ≤ 100
    unfold headL big1 big4
    simp; omega
  · show ([] : List UInt8).toArray.size ≤ 100
    simp
def sigCells (l : List Sg) : List Value := l.flatMap fun s => [.int .i64 s.by_, .string s.text]
theorem sigCells_snoc (l : List Sg) (s : Sg) : sigCells (l ++ [s]) = sigCells l ++ [.int .i64 s.by_, .string s.text] := by simp [sigCells]
def sigsOf (ms : List Int) (t : ByteArray) : List Sg := ms.map fun m => ⟨m, t⟩
theorem info_sig : (Try.prog.info? 24).map (fun i => (i.zero, i.size, i.bytes)) = some (some (.agg #[.int .i64 0, .string ByteArray.empty]), 2, 24) := by kernel_rfl
theorem sigCells_get : ∀ (l : List Sg) (j i : Nat) (h : j < l.length), i < 2 → (sigCells l)[j * 2 + i]? = ([.int .i64 l[j].by_, .string l[j].text] : List Value)[i]?
  | r :: t, 0, i, _, hi => by
    show ([.int .i64 r.by_, .string r.text] ++ sigCells t)[0 * 2 + i]? = _
    rw [List.getElem?_append_left (by show 0 * 2 + i < 2; omega), Nat.zero_mul, Nat.zero_add]; rfl
  | r :: t, j + 1, i, h, hi => by
    show ([.int .i64 r.by_, .string r.text] ++ sigCells t)[(j + 1) * 2 + i]? = _
    rw [List.getElem?_append_right (by show 2 ≤ _; omega), show (j + 1) * 2 + i - ([.int .i64 r.by_, .string r.text] : List Value).length = j * 2 + i by show (j + 1) * 2 + i - 2 = _; omega]
    exact sigCells_get t j i (by simpa using h) hi
theorem sigs_of_own {w : World} {base : Nat} {e : TypeId} {v : Value} {n : Nat} {l : List Sg} (h : w.ownsRow base e 2 v n (sigCells l)) (hn : n = l.length) (hi : ∀ s ∈ l, I64 s.by_ ∧ s.text.size ≤ 9223372036854775807) : ∃ a cap, v = .slice a n cap ∧ Sigs w a cap l := by
  subst hn
  rcases h.2 with ⟨rfl, hn⟩ | ⟨g, cap, cur, rfl, hb, hg, hc, hm, hs, ht⟩
  · exact ⟨none, 0, by rw [hn], by omega, by omega, fun j hj => by omega⟩
  · refine ⟨_, cap, rfl, hc, by unfold maxLen at hm; omega, fun j hj => ?_⟩
    have key : ∀ i u, i < 2 → ([.int .i64 l[j].by_, .string l[j].text] : List Value)[i]? = some u → w.cell? ⟨g, j * 2 + i, none⟩ = some u := by
      intro i u hi2 hu
      have e := sigCells_get l j i hj hi2
      rw [hu, ← ht, List.getElem?_take, if_pos (by omega), Array.getElem?_toList] at e
      have hgc : w.cell? ⟨g, j * 2 + i, none⟩ = cur[j * 2 + i]? := by simp [World.cell?, hg]
      rw [hgc]; exact e
    rw [sgAt_get hj]
    have hh := hi _ (List.getElem_mem hj)
    exact ⟨g, 0, rfl, (Array.getElem?_eq_some_iff.1 hg).1, by rw [Nat.zero_add]; exact key 0 _ (by omega) rfl, by rw [Nat.zero_add]; exact key 1 _ (by omega) rfl, hh.1, hh.2⟩
def sig1 (m : Int) (t : ByteArray) : Mo := ⟨fun v w => ∃ g, v = .slice (some ⟨g, 0, none⟩) 1 1 ∧ Bx w g [.int .i64 m, .string t] 24, fun _ _ _ x ⟨g, e, h⟩ => ⟨g, e, h.extN x⟩⟩
set_option maxHeartbeats 1000000 in
set_option maxRecDepth 100000 in
theorem law16_certF (epoch view slot c s k : Int) (key : ByteArray) (x : Nat) (id : Int) (he : I64 epoch) (hv : I64 view) (hsl : I64 slot) (hr : ReqOk ⟨c, s, ⟨k, key, x, id⟩⟩) (ma : Option Addr) (mcap : Nat) (ms : List Int) (hml : ms.length ≤ 1000000) (w : World) (h : Ints w ma mcap ms) :
    Calls Try.prog 29 #[.int .i64 epoch, .int .i64 view, .int .i64 slot, .agg #[.int .i64 c, .int .i64 s, .int .i64 k, .string key, .float .f64 x, .int .i64 id], .slice ma ms.length mcap] w fun e w' =>
    ∃ sa scap, e = .returned (.agg ((⟨view, slot, ⟨c, s, ⟨k, key, x, id⟩⟩, sigsOf ms (prepS epoch view slot ⟨c, s, ⟨k, key, x, id⟩⟩)⟩ : Ct).cells sa scap).toArray) ∧ Sigs w' sa scap (sigsOf ms (prepS epoch view slot ⟨c, s, ⟨k, key, x, id⟩⟩)) ∧ Ext Non w w' ∧ (∀ b o, sa = some ⟨b, o, none⟩ → w.heap.size ≤ b) := by
  have HH := Go.Lib.hid h; have HR := Go.Lib.hid hr; have HI := Go.Lib.hid (And.intro he (And.intro hv hsl))
  have hsm := h.small; have hle := h.le
  clear h hr he hv hsl
  go_enter Try.func29, Try.ntmps29
  go_wp2_with fail
  refine Calls.ew (ref_Prepared epoch view slot c s k key x id HI.out.1 HI.out.2.1 HI.out.2.2 HR.out.c HR.out.s HR.out.k HR.out.id HR.out.x HR.out.key _) ?_
  rintro e x1 rfl
  generalize hts : prepS epoch view slot ⟨c, s, ⟨k, key, x, id⟩⟩ = ts at *
  have HTS := Go.Lib.hid hts; clear hts
  generalize prepE epoch view slot ⟨c, s, ⟨k, key, x, id⟩⟩ = te at *
  go_wp2_with fail
  go_loopw [14] (fun iv wr => ∃ (i : Nat) (v : Value) (z : EW (From w.heap.size) w), i ≤ ms.length ∧ iv = .int .i64 i ∧ wr = z.on ∧ Hid (Bx wr (w.heap.size + 1) ((default : Ct).cells none 0) 52) ∧ Hid (Bx wr (w.heap.size + 1 + 1) [.int .i64 view, .int .i64 slot, .int .i64 c, .int .i64 s, .int .i64 k, .string key, .float .f64 x, .int .i64 id, v] 52) ∧ Hid (wr.ownsRow (w.heap.size + 3) 24 2 v i (sigCells ((sigsOf ms ts).take i)))) (fun iv _ => ms.length - (intOf iv).toNat)
  case atStart => exact ⟨0, .slice none 0 0, ⟨_, Ext.upN (by (repeat (first | with_reducible exact Ext.refl _ _ | assumption | with_reducible refine Ext.upN ?_ | with_reducible refine Ext.alloc ?_ _ | with_reducible refine Ext.upA (by assumption) ?_ | with_reducible refine Ext.upW ?_ | with_reducible refine Ext.drew ?_ | with_reducible refine Ext.drewN ?_ _ | with_reducible refine Ext.upF ?_ | with_reducible refine Ext.upFF (by first | omega | simp) ?_ | with_reducible refine Ext.setCellsF _ _ _ (by first | omega | simp) ?_ | with_reducible refine Ext.setCellF _ _ _ (by first | omega | simp) ?_ | with_reducible refine Ext.upFN (by first | omega | simp) ?_ | with_reducible refine Ext.up1F (by first | omega | simp) ?_ | with_reducible refine Ext.up1N (by first | omega | simp) ?_ | with_reducible refine Ext.setCell ?_ (.inr (by first | omega | simp)) _ | refine Ext.alloc ?_ _ | refine Ext.setCellF _ _ _ (by first | omega | simp) ?_ | refine Ext.setCell ?_ (.inr (by first | omega | simp)) _)))⟩, Nat.zero_le _, rfl, rfl, Go.Lib.hid (Bx.extN ((Bx.newAt _ _ _ _ (by simp)).alloc _) x1.ext), Go.Lib.hid (Bx.extN (Bx.newAt _ _ _ _ (by simp)) x1.ext), Go.Lib.hid (by rw [List.take_zero]; exact World.ownsRow_nil _ _ _ _)⟩
  case round =>
    obtain ⟨i, v, z, hi, rfl, rfl, B0, BX, HO⟩ := hrel
    by_cases hlt : i < ms.length
    · obtain ⟨mb, mo, rfl, hc0, hc1⟩ := HH.out.at_ i hlt
      have hmb := lt_of_cell hc0
      have hmb' : mb < w.heap.size := hmb
      have q8 : z.on.cell? ⟨w.heap.size + 1 + 1, 8, none⟩ = some v := BX.out.cell rfl
      have f8 : z.on.frozen? ⟨w.heap.size + 1 + 1, 8, none⟩ = false := froz_of_heap BX.out.h
      have hil : (i : Int) < (ms.length : Int) := by omega
      have hz3 : w.heap.size + 3 ≤ z.on.heap.size := by have := BX.out.lt; omega
      clear hc1
      go_upto_region 6 with fail
      refine wp_region_rel_tail 9 (relR [Mo.is (.pointer (some ⟨w.heap.size + 1 + 1, 8, none⟩)), Mo.is v, Mo.is (.slice (some ⟨mb, mo, none⟩) ms.length mcap), Mo.is (.int .i64 (i : Int)), Mo.is (.pointer (some ⟨mb, mo + i, none⟩)), Mo.is (.int .i64 ms[i]), Mo.is (.string ts), Mo.is (.agg #[.int .i64 ms[i], .string ts]), sig1 ms[i] ts]) (by kernel_rfl) (by kernel_rfl) (by kernel_rfl) (by kernel_rfl) (by kernel_rfl) (by decide) (by kernel_rfl) (relR_mono _) (StepL.all ?st) ?q
      case st =>
        refine ⟨?_, ?_, ?_, ?_, ?_, ?_, ?_, ?_, ?_, trivial⟩
        · intro a' w' hx hs hd
          obtain ⟨y, rfl⟩ := hx.ew
          have e11 : a'.tmps[11]?.getD undef = .pointer (some ⟨w.heap.size + 1 + 1, 0, none⟩) := hs 11 rfl
          clear hs hd
          refine ⟨rfl, ?_⟩
          go_simp
          exact ⟨by (repeat (first | with_reducible exact Ext.refl _ _ | assumption | with_reducible refine Ext.upN ?_ | with_reducible refine Ext.alloc ?_ _ | with_reducible refine Ext.upA (by assumption) ?_ | with_reducible refine Ext.upW ?_ | with_reducible refine Ext.drew ?_ | with_reducible refine Ext.drewN ?_ _ | with_reducible refine Ext.upF ?_ | with_reducible refine Ext.upFF (by first | omega | simp) ?_ | with_reducible refine Ext.setCellsF _ _ _ (by first | omega | simp) ?_ | with_reducible refine Ext.setCellF _ _ _ (by first | omega | simp) ?_ | with_reducible refine Ext.upFN (by first | omega | simp) ?_ | with_reducible refine Ext.up1F (by first | omega | simp) ?_ | with_reducible refine Ext.up1N (by first | omega | simp) ?_ | with_reducible refine Ext.setCell ?_ (.inr (by first | omega | simp)) _ | refine Ext.alloc ?_ _ | refine Ext.setCellF _ _ _ (by first | omega | simp) ?_ | refine Ext.setCell ?_ (.inr (by first | omega | simp)) _)), rfl⟩
        · intro a' w' hx hs hd
          obtain ⟨y, rfl⟩ := hx.ew
          have e33 : a'.tmps[33]?.getD undef = .pointer (some ⟨w.heap.size + 1 + 1, 8, none⟩) := hd 0 33 rfl rfl
          clear hs hd
          refine ⟨rfl, ?_⟩
          go_simp
          exact ⟨by (repeat (first | with_reducible exact Ext.refl _ _ | assumption | with_reducible refine Ext.upN ?_ | with_reducible refine Ext.alloc ?_ _ | with_reducible refine Ext.upA (by assumption) ?_ | with_reducible refine Ext.upW ?_ | with_reducible refine Ext.drew ?_ | with_reducible refine Ext.drewN ?_ _ | with_reducible refine Ext.upF ?_ | with_reducible refine Ext.upFF (by first | omega | simp) ?_ | with_reducible refine Ext.setCellsF _ _ _ (by first | omega | simp) ?_ | with_reducible refine Ext.setCellF _ _ _ (by first | omega | simp) ?_ | with_reducible refine Ext.upFN (by first | omega | simp) ?_ | with_reducible refine Ext.up1F (by first | omega | simp) ?_ | with_reducible refine Ext.up1N (by first | omega | simp) ?_ | with_reducible refine Ext.setCell ?_ (.inr (by first | omega | simp)) _ | refine Ext.alloc ?_ _ | refine Ext.setCellF _ _ _ (by first | omega | simp) ?_ | refine Ext.setCell ?_ (.inr (by first | omega | simp)) _)), rfl⟩
        · intro a' w' hx hs hd
          obtain ⟨y, rfl⟩ := hx.ew
          have e4 : a'.tmps[4]?.getD undef = .slice (some ⟨mb, mo, none⟩) ms.length mcap := hs 4 rfl
          clear hs hd
          refine ⟨rfl, ?_⟩
          go_simp
          exact ⟨by (repeat (first | with_reducible exact Ext.refl _ _ | assumption | with_reducible refine Ext.upN ?_ | with_reducible refine Ext.alloc ?_ _ | with_reducible refine Ext.upA (by assumption) ?_ | with_reducible refine Ext.upW ?_ | with_reducible refine Ext.drew ?_ | with_reducible refine Ext.drewN ?_ _ | with_reducible refine Ext.upF ?_ | with_reducible refine Ext.upFF (by first | omega | simp) ?_ | with_reducible refine Ext.setCellsF _ _ _ (by first | omega | simp) ?_ | with_reducible refine Ext.setCellF _ _ _ (by first | omega | simp) ?_ | with_reducible refine Ext.upFN (by first | omega | simp) ?_ | with_reducible refine Ext.up1F (by first | omega | simp) ?_ | with_reducible refine Ext.up1N (by first | omega | simp) ?_ | with_reducible refine Ext.setCell ?_ (.inr (by first | omega | simp)) _ | refine Ext.alloc ?_ _ | refine Ext.setCellF _ _ _ (by first | omega | simp) ?_ | refine Ext.setCell ?_ (.inr (by first | omega | simp)) _)), rfl⟩
        · intro a' w' hx hs hd
          obtain ⟨y, rfl⟩ := hx.ew
          have e14 : a'.tmps[14]?.getD undef = .int .i64 (i : Int) := hs 14 rfl
          clear hs hd
          refine ⟨rfl, ?_⟩
          go_simp
          exact ⟨by (repeat (first | with_reducible exact Ext.refl _ _ | assumption | with_reducible refine Ext.upN ?_ | with_reducible refine Ext.alloc ?_ _ | with_reducible refine Ext.upA (by assumption) ?_ | with_reducible refine Ext.upW ?_ | with_reducible refine Ext.drew ?_ | with_reducible refine Ext.drewN ?_ _ | with_reducible refine Ext.upF ?_ | with_reducible refine Ext.upFF (by first | omega | simp) ?_ | with_reducible refine Ext.setCellsF _ _ _ (by first | omega | simp) ?_ | with_reducible refine Ext.setCellF _ _ _ (by first | omega | simp) ?_ | with_reducible refine Ext.upFN (by first | omega | simp) ?_ | with_reducible refine Ext.up1F (by first | omega | simp) ?_ | with_reducible refine Ext.up1N (by first | omega | simp) ?_ | with_reducible refine Ext.setCell ?_ (.inr (by first | omega | simp)) _ | refine Ext.alloc ?_ _ | refine Ext.setCellF _ _ _ (by first | omega | simp) ?_ | refine Ext.setCell ?_ (.inr (by first | omega | simp)) _)), rfl⟩
        · intro a' w' hx hs hd
          obtain ⟨y, rfl⟩ := hx.ew
          have e35 : a'.tmps[35]?.getD undef = .slice (some ⟨mb, mo, none⟩) ms.length mcap := hd 2 35 rfl rfl
          have e36 : a'.tmps[36]?.getD undef = .int .i64 (i : Int) := hd 3 36 rfl rfl
          clear hs hd
          refine ⟨rfl, ?_⟩
          go_simp
          exact ⟨by (repeat (first | with_reducible exact Ext.refl _ _ | assumption | with_reducible refine Ext.upN ?_ | with_reducible refine Ext.alloc ?_ _ | with_reducible refine Ext.upA (by assumption) ?_ | with_reducible refine Ext.upW ?_ | with_reducible refine Ext.drew ?_ | with_reducible refine Ext.drewN ?_ _ | with_reducible refine Ext.upF ?_ | with_reducible refine Ext.upFF (by first | omega | simp) ?_ | with_reducible refine Ext.setCellsF _ _ _ (by first | omega | simp) ?_ | with_reducible refine Ext.setCellF _ _ _ (by first | omega | simp) ?_ | with_reducible refine Ext.upFN (by first | omega | simp) ?_ | with_reducible refine Ext.up1F (by first | omega | simp) ?_ | with_reducible refine Ext.up1N (by first | omega | simp) ?_ | with_reducible refine Ext.setCell ?_ (.inr (by first | omega | simp)) _ | refine Ext.alloc ?_ _ | refine Ext.setCellF _ _ _ (by first | omega | simp) ?_ | refine Ext.setCell ?_ (.inr (by first | omega | simp)) _)), rfl⟩
        · intro a' w' hx hs hd
          obtain ⟨y, rfl⟩ := hx.ew
          have e37 : a'.tmps[37]?.getD undef = .pointer (some ⟨mb, mo + i, none⟩) := hd 4 37 rfl rfl
          clear hs hd
          refine ⟨rfl, ?_⟩
          go_simp
          exact ⟨by (repeat (first | with_reducible exact Ext.refl _ _ | assumption | with_reducible refine Ext.upN ?_ | with_reducible refine Ext.alloc ?_ _ | with_reducible refine Ext.upA (by assumption) ?_ | with_reducible refine Ext.upW ?_ | with_reducible refine Ext.drew ?_ | with_reducible refine Ext.drewN ?_ _ | with_reducible refine Ext.upF ?_ | with_reducible refine Ext.upFF (by first | omega | simp) ?_ | with_reducible refine Ext.setCellsF _ _ _ (by first | omega | simp) ?_ | with_reducible refine Ext.setCellF _ _ _ (by first | omega | simp) ?_ | with_reducible refine Ext.upFN (by first | omega | simp) ?_ | with_reducible refine Ext.up1F (by first | omega | simp) ?_ | with_reducible refine Ext.up1N (by first | omega | simp) ?_ | with_reducible refine Ext.setCell ?_ (.inr (by first | omega | simp)) _ | refine Ext.alloc ?_ _ | refine Ext.setCellF _ _ _ (by first | omega | simp) ?_ | refine Ext.setCell ?_ (.inr (by first | omega | simp)) _)), rfl⟩
        · intro a' w' hx hs hd
          obtain ⟨y, rfl⟩ := hx.ew
          have e12 : a'.tmps[12]?.getD undef = .string ts := hs 12 rfl
          clear hs hd
          refine ⟨rfl, ?_⟩
          go_simp
          exact ⟨by (repeat (first | with_reducible exact Ext.refl _ _ | assumption | with_reducible refine Ext.upN ?_ | with_reducible refine Ext.alloc ?_ _ | with_reducible refine Ext.upA (by assumption) ?_ | with_reducible refine Ext.upW ?_ | with_reducible refine Ext.drew ?_ | with_reducible refine Ext.drewN ?_ _ | with_reducible refine Ext.upF ?_ | with_reducible refine Ext.upFF (by first | omega | simp) ?_ | with_reducible refine Ext.setCellsF _ _ _ (by first | omega | simp) ?_ | with_reducible refine Ext.setCellF _ _ _ (by first | omega | simp) ?_ | with_reducible refine Ext.upFN (by first | omega | simp) ?_ | with_reducible refine Ext.up1F (by first | omega | simp) ?_ | with_reducible refine Ext.up1N (by first | omega | simp) ?_ | with_reducible refine Ext.setCell ?_ (.inr (by first | omega | simp)) _ | refine Ext.alloc ?_ _ | refine Ext.setCellF _ _ _ (by first | omega | simp) ?_ | refine Ext.setCell ?_ (.inr (by first | omega | simp)) _)), rfl⟩
        · intro a' w' hx hs hd
          obtain ⟨y, rfl⟩ := hx.ew
          have e38 : a'.tmps[38]?.getD undef = .int .i64 ms[i] := hd 5 38 rfl rfl
          have e39 : a'.tmps[39]?.getD undef = .string ts := hd 6 39 rfl rfl
          clear hs hd
          refine ⟨rfl, ?_⟩
          go_simp
          exact ⟨by (repeat (first | with_reducible exact Ext.refl _ _ | assumption | with_reducible refine Ext.upN ?_ | with_reducible refine Ext.alloc ?_ _ | with_reducible refine Ext.upA (by assumption) ?_ | with_reducible refine Ext.upW ?_ | with_reducible refine Ext.drew ?_ | with_reducible refine Ext.drewN ?_ _ | with_reducible refine Ext.upF ?_ | with_reducible refine Ext.upFF (by first | omega | simp) ?_ | with_reducible refine Ext.setCellsF _ _ _ (by first | omega | simp) ?_ | with_reducible refine Ext.setCellF _ _ _ (by first | omega | simp) ?_ | with_reducible refine Ext.upFN (by first | omega | simp) ?_ | with_reducible refine Ext.up1F (by first | omega | simp) ?_ | with_reducible refine Ext.up1N (by first | omega | simp) ?_ | with_reducible refine Ext.setCell ?_ (.inr (by first | omega | simp)) _ | refine Ext.alloc ?_ _ | refine Ext.setCellF _ _ _ (by first | omega | simp) ?_ | refine Ext.setCell ?_ (.inr (by first | omega | simp)) _)), rfl⟩
        · intro a' w' hx hs hd
          obtain ⟨y, rfl⟩ := hx.ew
          have e40 : a'.tmps[40]?.getD undef = .agg #[.int .i64 ms[i], .string ts] := hd 7 40 rfl rfl
          clear hs hd
          refine ⟨rfl, ?_⟩
          go_simp
          exact ⟨by (repeat (first | with_reducible exact Ext.refl _ _ | assumption | with_reducible refine Ext.upN ?_ | with_reducible refine Ext.alloc ?_ _ | with_reducible refine Ext.upA (by assumption) ?_ | with_reducible refine Ext.upW ?_ | with_reducible refine Ext.drew ?_ | with_reducible refine Ext.drewN ?_ _ | with_reducible refine Ext.upF ?_ | with_reducible refine Ext.upFF (by first | omega | simp) ?_ | with_reducible refine Ext.setCellsF _ _ _ (by first | omega | simp) ?_ | with_reducible refine Ext.setCellF _ _ _ (by first | omega | simp) ?_ | with_reducible refine Ext.upFN (by first | omega | simp) ?_ | with_reducible refine Ext.up1F (by first | omega | simp) ?_ | with_reducible refine Ext.up1N (by first | omega | simp) ?_ | with_reducible refine Ext.setCell ?_ (.inr (by first | omega | simp)) _ | refine Ext.alloc ?_ _ | refine Ext.setCellF _ _ _ (by first | omega | simp) ?_ | refine Ext.setCell ?_ (.inr (by first | omega | simp)) _)), ⟨_, rfl, Bx.new _ _ _⟩⟩
      case q =>
        intro vs w' hx hR
        obtain ⟨y, rfl⟩ := hx.ew
        have v1 : vs 1 = v := hR 1 (by decide)
        obtain ⟨g0, v8, hB⟩ : ∃ g, vs 8 = .slice (some ⟨g, 0, none⟩) 1 1 ∧ Bx y.on g [.int .i64 ms[i], .string ts] 24 := hR 8 (by decide)
        have HB8 := Go.Lib.hid hB
        clear hB hR
        simp only [putAll, List.take_succ_cons, List.take_zero, List.drop_succ_cons, List.drop_zero, Act.put, List.setIfInBounds_toArray, List.set_cons_zero, List.set_cons_succ, Nat.reduceAdd, Nat.zero_add]
        simp only [v1, v8]
        go_wp2_with (at_builtin; refine wpList_append_ew rfl _ _ 50 rfl (w.heap.size + 3) 24 2 24 _ Try.underlying50 info_sig (by rfl) (by omega) (by omega) _ i _ rfl (ownR_extN HO.out (by (repeat (first | with_reducible exact Ext.refl _ _ | assumption | with_reducible refine Ext.upN ?_ | with_reducible refine Ext.alloc ?_ _ | with_reducible refine Ext.upA (by assumption) ?_ | with_reducible refine Ext.upW ?_ | with_reducible refine Ext.drew ?_ | with_reducible refine Ext.drewN ?_ _ | with_reducible refine Ext.upF ?_ | with_reducible refine Ext.upFF (by first | omega | simp) ?_ | with_reducible refine Ext.setCellsF _ _ _ (by first | omega | simp) ?_ | with_reducible refine Ext.setCellF _ _ _ (by first | omega | simp) ?_ | with_reducible refine Ext.upFN (by first | omega | simp) ?_ | with_reducible refine Ext.up1F (by first | omega | simp) ?_ | with_reducible refine Ext.up1N (by first | omega | simp) ?_ | with_reducible refine Ext.setCell ?_ (.inr (by first | omega | simp)) _ | refine Ext.alloc ?_ _ | refine Ext.setCellF _ _ _ (by first | omega | simp) ?_ | refine Ext.setCell ?_ (.inr (by first | omega | simp)) _)))) g0 [.int .i64 ms[i], .string ts] 24 rfl HB8.out rfl (by simp [Value.oneCell']) (by omega) (by have h1 := hz3; have h2 := y.ext.size; omega) (fun v' W2 hO => ?_); obtain ⟨g, gc, rfl, hg⟩ := ownR_some hO; have HO2 := Go.Lib.hid hO; clear hO)
        have HT : Hid ((sigsOf ms ts).take (i + 1) = (sigsOf ms ts).take i ++ [⟨ms[i], ts⟩]) := Go.Lib.hid (by
          have hl : i < (sigsOf ms ts).length := by simp [sigsOf]; exact hlt
          rw [List.take_succ_eq_append_getElem hl]; simp [sigsOf])
        go_roundw
        case rel => exact ⟨i + 1, .slice (some ⟨g, 0, none⟩) (i + 1) gc, ⟨_, by (repeat (first | with_reducible exact Ext.refl _ _ | assumption | with_reducible refine Ext.upN ?_ | with_reducible refine Ext.alloc ?_ _ | with_reducible refine Ext.upA (by assumption) ?_ | with_reducible refine Ext.upW ?_ | with_reducible refine Ext.drew ?_ | with_reducible refine Ext.drewN ?_ _ | with_reducible refine Ext.upF ?_ | with_reducible refine Ext.upFF (by first | omega | simp) ?_ | with_reducible refine Ext.setCellsF _ _ _ (by first | omega | simp) ?_ | with_reducible refine Ext.setCellF _ _ _ (by first | omega | simp) ?_ | with_reducible refine Ext.upFN (by first | omega | simp) ?_ | with_reducible refine Ext.up1F (by first | omega | simp) ?_ | with_reducible refine Ext.up1N (by first | omega | simp) ?_ | with_reducible refine Ext.setCell ?_ (.inr (by first | omega | simp)) _ | refine Ext.alloc ?_ _ | refine Ext.setCellF _ _ _ (by first | omega | simp) ?_ | refine Ext.setCell ?_ (.inr (by first | omega | simp)) _))⟩, hlt, by go_num, rfl, Go.Lib.hid (((B0.out.ext (by (repeat (first | with_reducible exact Ext.refl _ _ | assumption | with_reducible refine Ext.upN ?_ | with_reducible refine Ext.alloc ?_ _ | with_reducible refine Ext.upA (by assumption) ?_ | with_reducible refine Ext.upW ?_ | with_reducible refine Ext.drew ?_ | with_reducible refine Ext.drewN ?_ _ | with_reducible refine Ext.upF ?_ | with_reducible refine Ext.upFF (by first | omega | simp) ?_ | with_reducible refine Ext.setCellsF _ _ _ (by first | omega | simp) ?_ | with_reducible refine Ext.setCellF _ _ _ (by first | omega | simp) ?_ | with_reducible refine Ext.upFN (by first | omega | simp) ?_ | with_reducible refine Ext.up1F (by first | omega | simp) ?_ | with_reducible refine Ext.up1N (by first | omega | simp) ?_ | with_reducible refine Ext.setCell ?_ (.inr (by first | omega | simp)) _ | refine Ext.alloc ?_ _ | refine Ext.setCellF _ _ _ (by first | omega | simp) ?_ | refine Ext.setCell ?_ (.inr (by first | omega | simp)) _)) : Ext (From (w.heap.size + 3)) z.on W2.on) (by unfold From; omega)).ext ((Ext.refl (One (w.heap.size + 1 + 1)) _).set1 _) (by unfold One; omega))), Go.Lib.hid ((BX.out.ext (by (repeat (first | with_reducible exact Ext.refl _ _ | assumption | with_reducible refine Ext.upN ?_ | with_reducible refine Ext.alloc ?_ _ | with_reducible refine Ext.upA (by assumption) ?_ | with_reducible refine Ext.upW ?_ | with_reducible refine Ext.drew ?_ | with_reducible refine Ext.drewN ?_ _ | with_reducible refine Ext.upF ?_ | with_reducible refine Ext.upFF (by first | omega | simp) ?_ | with_reducible refine Ext.setCellsF _ _ _ (by first | omega | simp) ?_ | with_reducible refine Ext.setCellF _ _ _ (by first | omega | simp) ?_ | with_reducible refine Ext.upFN (by first | omega | simp) ?_ | with_reducible refine Ext.up1F (by first | omega | simp) ?_ | with_reducible refine Ext.up1N (by first | omega | simp) ?_ | with_reducible refine Ext.setCell ?_ (.inr (by first | omega | simp)) _ | refine Ext.alloc ?_ _ | refine Ext.setCellF _ _ _ (by first | omega | simp) ?_ | refine Ext.setCell ?_ (.inr (by first | omega | simp)) _)) : Ext (From (w.heap.size + 3)) z.on W2.on) (by unfold From; omega)).set _), Go.Lib.hid (by rw [HT.out, sigCells_snoc]; exact ownR_ext HO2.out ((Ext.refl (One (w.heap.size + 1 + 1)) _).set1 _) (fun q hq e => by unfold One at e; have := (HO2.out.lt q hq).1; omega))⟩
        case measure => simp [intOf]; omega
    · have HT : Hid (sigsOf ms ts = (sigsOf ms ts).take i) := Go.Lib.hid (by rw [List.take_of_length_le (by simp [sigsOf]; omega)])
      have HN : Hid (i = ms.length) := Go.Lib.hid (by omega)
      have q0 : z.on.cell? ⟨w.heap.size + 1 + 1, 0, none⟩ = some (.int .i64 view) := BX.out.cell rfl
      have q1 : z.on.cell? ⟨w.heap.size + 1 + 1, 1, none⟩ = some (.int .i64 slot) := BX.out.cell rfl
      have q2 : z.on.cell? ⟨w.heap.size + 1 + 1, 2, none⟩ = some (.int .i64 c) := BX.out.cell rfl
      have q3 : z.on.cell? ⟨w.heap.size + 1 + 1, 3, none⟩ = some (.int .i64 s) := BX.out.cell rfl
      have q4 : z.on.cell? ⟨w.heap.size + 1 + 1, 4, none⟩ = some (.int .i64 k) := BX.out.cell rfl
      have q5 : z.on.cell? ⟨w.heap.size + 1 + 1, 5, none⟩ = some (.string key) := BX.out.cell rfl
      have q6 : z.on.cell? ⟨w.heap.size + 1 + 1, 6, none⟩ = some (.float .f64 x) := BX.out.cell rfl
      have q7 : z.on.cell? ⟨w.heap.size + 1 + 1, 7, none⟩ = some (.int .i64 id) := BX.out.cell rfl
      have q8 : z.on.cell? ⟨w.heap.size + 1 + 1, 8, none⟩ = some v := BX.out.cell rfl
      have hO := HO.out
      rw [← HT.out] at hO
      obtain ⟨va, vc, rfl, hvs⟩ := sigs_of_own hO (by simp [sigsOf]; omega) (by
        intro q hq
        obtain ⟨m, hm, rfl⟩ := List.mem_map.1 hq
        obtain ⟨jm, hjm, rfl⟩ := List.getElem_of_mem hm
        obtain ⟨_, _, _, _, h64⟩ := HH.out.at_ jm hjm
        refine ⟨h64, ?_⟩
        show ts.size ≤ _
        have := prepS_size epoch view slot ⟨c, s, ⟨k, key, x, id⟩⟩
        rw [HTS.out] at this
        omega)
      have HVS := Go.Lib.hid hvs
      clear hO hvs
      have hw1 : w.heap.size + 1 ≠ w.heap.size + 1 + 1 := by omega
      go_wp2_with (refine wpList_store_box rfl 52 _ _ rfl (w.heap.size + 1) _ [.int .i64 view, .int .i64 slot, .int .i64 c, .int .i64 s, .int .i64 k, .string key, .float .f64 x, .int .i64 id, .slice va i vc] _ rfl rfl B0.out rfl info_cert (by simp [Value.oneCell']) (fun W hB => ?_); have BZ := Go.Lib.hid hB; clear hB)
      have r0 : W.on.cell? ⟨w.heap.size + 1, 0, none⟩ = some (.int .i64 view) := BZ.out.cell rfl
      have r1 : W.on.cell? ⟨w.heap.size + 1, 1, none⟩ = some (.int .i64 slot) := BZ.out.cell rfl
      have r2 : W.on.cell? ⟨w.heap.size + 1, 2, none⟩ = some (.int .i64 c) := BZ.out.cell rfl
      have r3 : W.on.cell? ⟨w.heap.size + 1, 3, none⟩ = some (.int .i64 s) := BZ.out.cell rfl
      have r4 : W.on.cell? ⟨w.heap.size + 1, 4, none⟩ = some (.int .i64 k) := BZ.out.cell rfl
      have r5 : W.on.cell? ⟨w.heap.size + 1, 5, none⟩ = some (.string key) := BZ.out.cell rfl
      have r6 : W.on.cell? ⟨w.heap.size + 1, 6, none⟩ = some (.float .f64 x) := BZ.out.cell rfl
      have r7 : W.on.cell? ⟨w.heap.size + 1, 7, none⟩ = some (.int .i64 id) := BZ.out.cell rfl
      have r8 : W.on.cell? ⟨w.heap.size + 1, 8, none⟩ = some (.slice va i vc) := BZ.out.cell rfl
      clear q0 q1 q2 q3 q4 q5 q6 q7 q8
      have HCe : Hid ((⟨view, slot, ⟨c, s, ⟨k, key, x, id⟩⟩, sigsOf ms ts⟩ : Ct).cells va vc = [.int .i64 view, .int .i64 slot, .int .i64 c, .int .i64 s, .int .i64 k, .string key, .float .f64 x, .int .i64 id, .slice va i vc]) := Go.Lib.hid (by unfold Ct.cells; rw [show (sigsOf ms ts).length = i by simp [sigsOf]; exact HN.out.symm])
      exact bodyPost_ret (v := .agg #[.int .i64 view, .int .i64 slot, .int .i64 c, .int .i64 s, .int .i64 k, .string key, .float .f64 x, .int .i64 id, .slice va i vc]) (by simp [results, Try.results29, go_sem, r0, r1, r2, r3, r4, r5, r6, r7, r8]) rfl
        ⟨va, vc, by rw [HTS.out, HCe.out], by rw [HTS.out]; exact HVS.out.ext W.ext (fun b o e => fun hq => by
          have hb := HO.out.lt b (by rw [e]; rfl)
          unfold One at hq; omega), Ext.fromNon (Nat.le_refl _) (by (repeat (first | with_reducible exact Ext.refl _ _ | assumption | with_reducible refine Ext.upN ?_ | with_reducible refine Ext.alloc ?_ _ | with_reducible refine Ext.upA (by assumption) ?_ | with_reducible refine Ext.upW ?_ | with_reducible refine Ext.drew ?_ | with_reducible refine Ext.drewN ?_ _ | with_reducible refine Ext.upF ?_ | with_reducible refine Ext.upFF (by first | omega | simp) ?_ | with_reducible refine Ext.setCellsF _ _ _ (by first | omega | simp) ?_ | with_reducible refine Ext.setCellF _ _ _ (by first | omega | simp) ?_ | with_reducible refine Ext.upFN (by first | omega | simp) ?_ | with_reducible refine Ext.up1F (by first | omega | simp) ?_ | with_reducible refine Ext.up1N (by first | omega | simp) ?_ | with_reducible refine Ext.setCell ?_ (.inr (by first | omega | simp)) _ | refine Ext.alloc ?_ _ | refine Ext.setCellF _ _ _ (by first | omega | simp) ?_ | refine Ext.setCell ?_ (.inr (by first | omega | simp)) _))), fun b o e => by have hb := HO.out.lt b (by rw [e]; rfl); omega⟩
theorem law16_cert (epoch view slot c s k : Int) (key : ByteArray) (x : Nat) (id : Int) (he : I64 epoch) (hv : I64 view) (hsl : I64 slot) (hr : ReqOk ⟨c, s, ⟨k, key, x, id⟩⟩) (ma : Option Addr) (mcap : Nat) (ms : List Int) (hml : ms.length ≤ 1000000) (w : World) (h : Ints w ma mcap ms) :
    Calls Try.prog 29 #[.int .i64 epoch, .int .i64 view, .int .i64 slot, .agg #[.int .i64 c, .int .i64 s, .int .i64 k, .string key, .float .f64 x, .int .i64 id], .slice ma ms.length mcap] w fun e w' =>
    ∃ sa scap, e = .returned (.agg ((⟨view, slot, ⟨c, s, ⟨k, key, x, id⟩⟩, sigsOf ms (prepS epoch view slot ⟨c, s, ⟨k, key, x, id⟩⟩)⟩ : Ct).cells sa scap).toArray) ∧ Sigs w' sa scap (sigsOf ms (prepS epoch view slot ⟨c, s, ⟨k, key, x, id⟩⟩)) ∧ Ext Non w w' :=
  (law16_certF epoch view slot c s k key x id he hv hsl hr ma mcap ms hml w h).mono fun _ _ ⟨sa, scap, a, b, c, _⟩ => ⟨sa, scap, a, b, c⟩
end Go.Proofs.Ytakbkpklfihfiaa

/- Layer 16's lives: one of three changes has a certificate of the third slot. -/
namespace Go.Proofs.Ytakbkpklfihfiaa
open Go.RowKit Go.Lib F64
set_option linter.unusedSimpArgs false
set_option linter.unusedVariables false
attribute [local go_sem] run_store_float
attribute [local go_sem low] EW.cellN EW.frozN alloc_cell_or alloc_froz_or EW.cellF EW.frozF EW.cell1 EW.froz1
attribute [local go_sem] relAt relUpon
def sameT (a b : Req) : Bool := (reqE a == 0) && (reqE b == 0) && ((reqS a).toList == (reqS b).toList)
set_option maxHeartbeats 1000000 in
set_option maxRecDepth 100000 in
theorem ref11_Same (c1 s1 k1 : Int) (key1 : ByteArray) (x1 : Nat) (id1 : Int) (c2 s2 k2 : Int) (key2 : ByteArray) (x2 : Nat) (id2 : Int) (h1 : ReqOk ⟨c1, s1, ⟨k1, key1, x1, id1⟩⟩) (h2 : ReqOk ⟨c2, s2, ⟨k2, key2, x2, id2⟩⟩) (w : World) :
    Calls Try.prog 32 #[.agg #[.int .i64 c1, .int .i64 s1, .int .i64 k1, .string key1, .float .f64 x1, .int .i64 id1], .agg #[.int .i64 c2, .int .i64 s2, .int .i64 k2, .string key2, .float .f64 x2, .int .i64 id2]] w fun e w' =>
    e = .returned (.bool (sameT ⟨c1, s1, ⟨k1, key1, x1, id1⟩⟩ ⟨c2, s2, ⟨k2, key2, x2, id2⟩⟩)) ∧ Ext Non w w' := by
  have H1 := Go.Lib.hid h1; have H2 := Go.Lib.hid h2
  have DS : Hid (sameT ⟨c1, s1, ⟨k1, key1, x1, id1⟩⟩ ⟨c2, s2, ⟨k2, key2, x2, id2⟩⟩ = ((reqE ⟨c1, s1, ⟨k1, key1, x1, id1⟩⟩ == 0) && (reqE ⟨c2, s2, ⟨k2, key2, x2, id2⟩⟩ == 0) && ((reqS ⟨c1, s1, ⟨k1, key1, x1, id1⟩⟩).toList == (reqS ⟨c2, s2, ⟨k2, key2, x2, id2⟩⟩).toList))) := Go.Lib.hid rfl
  clear h1 h2
  go_enter Try.func32, Try.ntmps32
  go_wp2_with fail
  refine Calls.ew (ref_Text c1 s1 k1 key1 x1 id1 H1.out.c H1.out.s H1.out.k H1.out.id H1.out.x H1.out.key _) ?_
  rintro e y1 rfl
  go_wp2_with fail
  refine Calls.ew (ref_Text c2 s2 k2 key2 x2 id2 H2.out.c H2.out.s H2.out.k H2.out.id H2.out.x H2.out.key _) ?_
  rintro e y2 rfl
  generalize hs1 : reqS ⟨c1, s1, ⟨k1, key1, x1, id1⟩⟩ = t1 at *
  generalize hs2 : reqS ⟨c2, s2, ⟨k2, key2, x2, id2⟩⟩ = t2 at *
  generalize he1 : reqE ⟨c1, s1, ⟨k1, key1, x1, id1⟩⟩ = e1 at *
  generalize he2 : reqE ⟨c2, s2, ⟨k2, key2, x2, id2⟩⟩ = e2 at *
  clear hs1 hs2 he1 he2
  cases hb1 : (e1 == 0)
  · as_aux_lemma =>
    have B1 := Go.Lib.hid hb1
    go_wp2
    go_ret
    exact ⟨ret_bool (by rw [DS.out, B1.out]; rfl), by (repeat (first | with_reducible exact Ext.refl _ _ | assumption | with_reducible refine Ext.upN ?_ | with_reducible refine Ext.alloc ?_ _ | with_reducible refine Ext.upA (by assumption) ?_ | with_reducible refine Ext.upW ?_ | with_reducible refine Ext.drew ?_ | with_reducible refine Ext.drewN ?_ _ | with_reducible refine Ext.upF ?_ | with_reducible refine Ext.upFF (by first | omega | simp) ?_ | with_reducible refine Ext.setCellsF _ _ _ (by first | omega | simp) ?_ | with_reducible refine Ext.setCellF _ _ _ (by first | omega | simp) ?_ | with_reducible refine Ext.upFN (by first | omega | simp) ?_ | with_reducible refine Ext.up1F (by first | omega | simp) ?_ | with_reducible refine Ext.up1N (by first | omega | simp) ?_ | with_reducible refine Ext.setCell ?_ (.inr (by first | omega | simp)) _ | refine Ext.alloc ?_ _ | refine Ext.setCellF _ _ _ (by first | omega | simp) ?_ | refine Ext.setCell ?_ (.inr (by first | omega | simp)) _))⟩
  · cases hb2 : (e2 == 0)
    · as_aux_lemma =>
      have B1 := Go.Lib.hid hb1; have B2 := Go.Lib.hid hb2
      go_wp2
      go_ret
      exact ⟨ret_bool (by rw [DS.out, B1.out, B2.out]; rfl), by (repeat (first | with_reducible exact Ext.refl _ _ | assumption | with_reducible refine Ext.upN ?_ | with_reducible refine Ext.alloc ?_ _ | with_reducible refine Ext.upA (by assumption) ?_ | with_reducible refine Ext.upW ?_ | with_reducible refine Ext.drew ?_ | with_reducible refine Ext.drewN ?_ _ | with_reducible refine Ext.upF ?_ | with_reducible refine Ext.upFF (by first | omega | simp) ?_ | with_reducible refine Ext.setCellsF _ _ _ (by first | omega | simp) ?_ | with_reducible refine Ext.setCellF _ _ _ (by first | omega | simp) ?_ | with_reducible refine Ext.upFN (by first | omega | simp) ?_ | with_reducible refine Ext.up1F (by first | omega | simp) ?_ | with_reducible refine Ext.up1N (by first | omega | simp) ?_ | with_reducible refine Ext.setCell ?_ (.inr (by first | omega | simp)) _ | refine Ext.alloc ?_ _ | refine Ext.setCellF _ _ _ (by first | omega | simp) ?_ | refine Ext.setCell ?_ (.inr (by first | omega | simp)) _))⟩
    · cases hb3 : (t1.toList == t2.toList)
      all_goals
        have B1 := Go.Lib.hid hb1; have B2 := Go.Lib.hid hb2; have B3 := Go.Lib.hid hb3
        go_wp2
        go_ret
        exact ⟨ret_bool (by rw [DS.out, B1.out, B2.out, B3.out]; rfl), by (repeat (first | with_reducible exact Ext.refl _ _ | assumption | with_reducible refine Ext.upN ?_ | with_reducible refine Ext.alloc ?_ _ | with_reducible refine Ext.upA (by assumption) ?_ | with_reducible refine Ext.upW ?_ | with_reducible refine Ext.drew ?_ | with_reducible refine Ext.drewN ?_ _ | with_reducible refine Ext.upF ?_ | with_reducible refine Ext.upFF (by first | omega | simp) ?_ | with_reducible refine Ext.setCellsF _ _ _ (by first | omega | simp) ?_ | with_reducible refine Ext.setCellF _ _ _ (by first | omega | simp) ?_ | with_reducible refine Ext.upFN (by first | omega | simp) ?_ | with_reducible refine Ext.up1F (by first | omega | simp) ?_ | with_reducible refine Ext.up1N (by first | omega | simp) ?_ | with_reducible refine Ext.setCell ?_ (.inr (by first | omega | simp)) _ | refine Ext.alloc ?_ _ | refine Ext.setCellF _ _ _ (by first | omega | simp) ?_ | refine Ext.setCell ?_ (.inr (by first | omega | simp)) _))⟩
theorem lives_same : sameT ⟨1, 1, ⟨6, ByteArray.empty, 0, 7⟩⟩ ⟨1, 1, ⟨6, ByteArray.empty, 0, 7⟩⟩ = true := by decide +kernel
def rL : Req := ⟨1, 1, ⟨6, ByteArray.empty, 0, 7⟩⟩
def sgL : List Sg := sigsOf [0, 1, 3] (prepS 0 0 3 rL)
def ctL : Ct := ⟨0, 3, rL, sgL⟩
def txL (f : Int) (cs : List Ct) : ByteArray := chS 0 ⟨f, 1, cs, 0, ByteArray.empty⟩
def chL (f : Int) (cs : List Ct) : Ch := ⟨f, 1, cs, f, txL f cs⟩
def lL : List Ch := [chL 0 [], chL 1 [ctL], chL 3 []]
theorem lives_check : checkE 0 [0, 1, 2, 3] 1 lL = 0 := by decide +kernel
theorem lives_len : (pickR 0 lL).length = 3 := by decide +kernel
theorem lives_null : nullB ((pickR 0 lL).getD 0 rL) = true := by decide +kernel
theorem lives_pick : pickR 0 lL = [nullR, nullR, rL] := by kernel_rfl
theorem lives_right : rightE 0 [0, 1, 2, 3] (chL 1 [ctL]) = 0 := by decide +kernel
theorem lives_wrong : rightE 0 [0, 1, 2, 3] ⟨1, 1, [], 0, ByteArray.empty⟩ = 16 := by decide +kernel
theorem WOk.byte {W : Wr} (h : WOk W) (n : Int) : WOk (byteW W n) := h.put _ _
theorem WOk.word {W : Wr} (h : WOk W) (n : Int) : WOk (wordW W n) := h.put _ _
theorem WOk.text {W : Wr} (h : WOk W) (s : List UInt8) : WOk (textW W s) := h.put _ _
theorem WOk.sigs : ∀ (l : List Sg) {W : Wr} (h : WOk W), WOk (wSigs W l)
  | [], _, h => h
  | s :: t, W, h => WOk.sigs t (W := wSig W s) ((h.byte _).text _)
theorem WOk.certs : ∀ (l : List Ct) {W : Wr} (h : WOk W), WOk (wCerts W l)
  | [], _, h => h
  | x :: t, W, h => WOk.certs t (W := wCert W x) (WOk.sigs _ ((((h.byte _).word _).text _).byte _))
theorem wok_ch (epoch : Int) (c : Ch) : WOk (chW epoch c) := WOk.certs _ ((((((WOk.new (by decide)).byte _).word _).byte _).byte _).byte _)

theorem certs_box (w : World) (g : Nat) (t : TypeId) (sa : Option Addr) (scap : Nat) (x : Ct) (h : Bx w g (x.cells sa scap) t) (hs : Sigs w sa scap x.sigs) (hr : ReqOk x.req) (hv : I64 x.view) (hsl : I64 x.slot) : Certs w (some ⟨g, 0, none⟩) 1 [x] :=
  ⟨Nat.le_refl _, by omega, fun j hj => by
    obtain rfl : j = 0 := by simp at hj; omega
    exact ⟨g, 0, sa, scap, rfl, h.lt, fun i v hv => by rw [show 0 + 0 * 9 + i = i by omega]; exact h.cell hv, hs, hr, hv, hsl⟩⟩
theorem certs_nil (w : World) : Certs w none 0 [] := ⟨Nat.le_refl _, by omega, fun j hj => by simp at hj⟩
theorem i64_lit {n : Int} (h1 : -100 ≤ n) (h2 : n ≤ 100) : I64 n := by unfold I64; omega
theorem rL_ok : ReqOk rL := ⟨i64_lit (by decide) (by decide), i64_lit (by decide) (by decide), i64_lit (by decide) (by decide), i64_lit (by decide) (by decide), by decide, by decide⟩
theorem txL_size (f : Int) (cs : List Ct) : (txL f cs).size ≤ 9223372036854775807 := by
  unfold txL chS
  split
  · have h := wok_ch 0 ⟨f, 1, cs, 0, ByteArray.empty⟩
    unfold doneS
    split
    · show (chW 0 ⟨f, 1, cs, 0, ByteArray.empty⟩).bs.toArray.size ≤ _
      have h1 := h.lim; have h2 := h.room
      simp; omega
    · show ([] : List UInt8).toArray.size ≤ _; simp
  · show ([] : List UInt8).toArray.size ≤ _; simp
def mo3 : Mo := ⟨fun v w => ∃ g, v = .slice (some ⟨g, 0, none⟩) 3 3 ∧ Ints w (some ⟨g, 0, none⟩) 3 [0, 1, 3], fun _ _ _ x ⟨g, e, h⟩ => ⟨g, e, h.extN x⟩⟩
def mo4 : Mo := ⟨fun v w => ∃ sa scap, v = .agg #[.int .i64 0, .int .i64 3, .int .i64 1, .int .i64 1, .int .i64 6, .string ByteArray.empty, .float .f64 0, .int .i64 7, .slice sa 3 scap] ∧ Sigs w sa scap sgL, fun _ _ _ x ⟨g, c, e, h⟩ => ⟨g, c, e, h.extN x⟩⟩
def mo5 : Mo := ⟨fun v w => ∃ g, v = .slice (some ⟨g, 0, none⟩) 1 1 ∧ Certs w (some ⟨g, 0, none⟩) 1 [ctL], fun _ _ _ x ⟨g, e, h⟩ => ⟨g, e, h.extN x⟩⟩
def mo6 : Mo := ⟨fun v w => ∃ g, v = .agg #[.int .i64 1, .int .i64 1, .slice (some ⟨g, 0, none⟩) 1 1, .int .i64 0, .string ByteArray.empty] ∧ Certs w (some ⟨g, 0, none⟩) 1 [ctL], fun _ _ _ x ⟨g, e, h⟩ => ⟨g, e, h.extN x⟩⟩
def mo7 : Mo := ⟨fun v w => ∃ g, v = .agg #[.int .i64 1, .int .i64 1, .slice (some ⟨g, 0, none⟩) 1 1, .int .i64 1, .string (txL 1 [ctL])] ∧ Certs w (some ⟨g, 0, none⟩) 1 [ctL], fun _ _ _ x ⟨g, e, h⟩ => ⟨g, e, h.extN x⟩⟩
def mo10 : Mo := ⟨fun v w => ∃ g, v = .slice (some ⟨g, 0, none⟩) 3 3 ∧ Chs w (some ⟨g, 0, none⟩) 3 lL, fun _ _ _ x ⟨g, e, h⟩ => ⟨g, e, h.extN x⟩⟩
def moF : Mo := ⟨fun v w => ∃ b, v = .agg #[.int .i64 0, .slice (some ⟨b, 0, none⟩) 4 4] ∧ Ints w (some ⟨b, 0, none⟩) 4 [0, 1, 2, 3], fun _ _ _ x ⟨g, e, h⟩ => ⟨g, e, h.extN x⟩⟩
theorem chs_box (w : World) (g : Nat) (t : TypeId) (gc : Nat) (h : Bx w g ((chL 0 []).cells none 0 ++ ((chL 1 [ctL]).cells (some ⟨gc, 0, none⟩) 1 ++ (chL 3 []).cells none 0)) t) (hc : Certs w (some ⟨gc, 0, none⟩) 1 [ctL]) : Chs w (some ⟨g, 0, none⟩) 3 lL := by
  refine ⟨Nat.le_refl _, by omega, fun j hj => ?_⟩
  have h3 : j = 0 ∨ j = 1 ∨ j = 2 := by have : j < 3 := hj; omega
  have i64 : ∀ n : Int, 0 ≤ n → n ≤ 3 → I64 n := fun n h1 h2 => by unfold I64; omega
  have app : ∀ (a b : List Value) (i : Nat) (v : Value), a[i]? = some v → (a ++ b)[i]? = some v := fun a b i v hv => by
    rw [List.getElem?_append_left (List.getElem?_eq_some_iff.1 hv).1]; exact hv
  have apr : ∀ (a b : List Value) (i k : Nat) (v : Value), a.length = k → b[i]? = some v → (a ++ b)[k + i]? = some v := fun a b i k v hk hv => by
    rw [List.getElem?_append_right (by omega), show k + i - a.length = i by omega]; exact hv
  rcases h3 with rfl | rfl | rfl
  · exact ⟨g, 0, none, 0, rfl, h.lt, fun i v hv => by rw [show 0 + 0 * 5 + i = i by omega]; exact h.cell (app _ _ _ _ hv), certs_nil w, i64 0 (by omega) (by omega), i64 1 (by omega) (by omega), i64 0 (by omega) (by omega), txL_size 0 []⟩
  · exact ⟨g, 0, some ⟨gc, 0, none⟩, 1, rfl, h.lt, fun i v hv => by rw [show 0 + 1 * 5 + i = 5 + i by omega]; exact h.cell (apr _ _ _ 5 _ rfl (app _ _ _ _ hv)), hc, i64 1 (by omega) (by omega), i64 1 (by omega) (by omega), i64 1 (by omega) (by omega), txL_size 1 [ctL]⟩
  · exact ⟨g, 0, none, 0, rfl, h.lt, fun i v hv => by rw [show 0 + 2 * 5 + i = 5 + (5 + i) by omega]; exact h.cell (apr _ _ _ 5 _ rfl (apr _ _ _ 5 _ rfl hv)), certs_nil w, i64 3 (by omega) (by omega), i64 1 (by omega) (by omega), i64 3 (by omega) (by omega), txL_size 3 []⟩
set_option maxHeartbeats 4000000 in
set_option maxRecDepth 100000 in
theorem law16_lives (w : World) : Calls Try.prog 14 #[] w fun e w' => e = .returned (.bool true) ∧ Ext Non w w' := by
  go_enter Try.func14, Try.ntmps14
  go_wp2_with fail
  refine wp_region_rel (relR [Mo.is (.agg #[.int .i64 0, .int .i64 1, .slice none 0 0, .int .i64 0, .string ByteArray.empty]), Mo.is (.agg #[.int .i64 0, .int .i64 1, .slice none 0 0, .int .i64 0, .string (txL 0 [])]), Mo.is (.agg #[.int .i64 1, .int .i64 1, .int .i64 6, .string ByteArray.empty, .float .f64 0, .int .i64 7]), mo3, mo4, mo5, mo6, mo7, Mo.is (.agg #[.int .i64 3, .int .i64 1, .slice none 0 0, .int .i64 0, .string ByteArray.empty]), Mo.is (.agg #[.int .i64 3, .int .i64 1, .slice none 0 0, .int .i64 3, .string (txL 3 [])]), mo10, mo10]) (by kernel_rfl) (by kernel_rfl) (by kernel_rfl) (relR_mono _) (StepL.all ?st) ?q
  case st =>
    refine ⟨?_, ?_, ?_, ?_, ?_, ?_, ?_, ?_, ?_, ?_, ?_, ?_, trivial⟩
    · intro a' w' hx hs hd
      obtain ⟨y, rfl⟩ := hx.ew
      clear hs hd
      refine ⟨rfl, ?_⟩
      go_simp
      exact ⟨by (repeat (first | with_reducible exact Ext.refl _ _ | assumption | with_reducible refine Ext.upN ?_ | with_reducible refine Ext.alloc ?_ _ | with_reducible refine Ext.upA (by assumption) ?_ | with_reducible refine Ext.upW ?_ | with_reducible refine Ext.drew ?_ | with_reducible refine Ext.drewN ?_ _ | with_reducible refine Ext.upF ?_ | with_reducible refine Ext.upFF (by first | omega | simp) ?_ | with_reducible refine Ext.setCellsF _ _ _ (by first | omega | simp) ?_ | with_reducible refine Ext.setCellF _ _ _ (by first | omega | simp) ?_ | with_reducible refine Ext.upFN (by first | omega | simp) ?_ | with_reducible refine Ext.up1F (by first | omega | simp) ?_ | with_reducible refine Ext.up1N (by first | omega | simp) ?_ | with_reducible refine Ext.setCell ?_ (.inr (by first | omega | simp)) _ | refine Ext.alloc ?_ _ | refine Ext.setCellF _ _ _ (by first | omega | simp) ?_ | refine Ext.setCell ?_ (.inr (by first | omega | simp)) _)), rfl⟩
    · intro a' w' hx hs hd
      obtain ⟨y, rfl⟩ := hx.ew
      have e7 : a'.tmps[7]?.getD undef = .agg #[.int .i64 0, .int .i64 1, .slice none 0 0, .int .i64 0, .string ByteArray.empty] := hd 0 7 rfl rfl
      clear hs hd
      refine ⟨rfl, ?_⟩
      go_simp
      exact (law16_signed 0 0 1 0 ByteArray.empty none 0 [] (i64_lit (by decide) (by decide)) (i64_lit (by decide) (by decide)) (i64_lit (by decide) (by decide)) _ (certs_nil _)).mono (fun e w'' ⟨he, hx⟩ => ⟨_, he, hx, rfl⟩)
    · intro a' w' hx hs hd
      obtain ⟨y, rfl⟩ := hx.ew
      have e1 : a'.tmps[1]?.getD undef = .pointer (some ⟨w.heap.size, 0, none⟩) := hs 1 rfl
      clear hs hd
      refine ⟨rfl, ?_⟩
      go_simp
      exact ⟨by (repeat (first | with_reducible exact Ext.refl _ _ | assumption | with_reducible refine Ext.upN ?_ | with_reducible refine Ext.alloc ?_ _ | with_reducible refine Ext.upA (by assumption) ?_ | with_reducible refine Ext.upW ?_ | with_reducible refine Ext.drew ?_ | with_reducible refine Ext.drewN ?_ _ | with_reducible refine Ext.upF ?_ | with_reducible refine Ext.upFF (by first | omega | simp) ?_ | with_reducible refine Ext.setCellsF _ _ _ (by first | omega | simp) ?_ | with_reducible refine Ext.setCellF _ _ _ (by first | omega | simp) ?_ | with_reducible refine Ext.upFN (by first | omega | simp) ?_ | with_reducible refine Ext.up1F (by first | omega | simp) ?_ | with_reducible refine Ext.up1N (by first | omega | simp) ?_ | with_reducible refine Ext.setCell ?_ (.inr (by first | omega | simp)) _ | refine Ext.alloc ?_ _ | refine Ext.setCellF _ _ _ (by first | omega | simp) ?_ | refine Ext.setCell ?_ (.inr (by first | omega | simp)) _)), rfl⟩
    · intro a' w' hx hs hd
      obtain ⟨y, rfl⟩ := hx.ew
      clear hs hd
      refine ⟨rfl, ?_⟩
      go_simp
      exact ⟨by (repeat (first | with_reducible exact Ext.refl _ _ | assumption | with_reducible refine Ext.upN ?_ | with_reducible refine Ext.alloc ?_ _ | with_reducible refine Ext.upA (by assumption) ?_ | with_reducible refine Ext.upW ?_ | with_reducible refine Ext.drew ?_ | with_reducible refine Ext.drewN ?_ _ | with_reducible refine Ext.upF ?_ | with_reducible refine Ext.upFF (by first | omega | simp) ?_ | with_reducible refine Ext.setCellsF _ _ _ (by first | omega | simp) ?_ | with_reducible refine Ext.setCellF _ _ _ (by first | omega | simp) ?_ | with_reducible refine Ext.upFN (by first | omega | simp) ?_ | with_reducible refine Ext.up1F (by first | omega | simp) ?_ | with_reducible refine Ext.up1N (by first | omega | simp) ?_ | with_reducible refine Ext.setCell ?_ (.inr (by first | omega | simp)) _ | refine Ext.alloc ?_ _ | refine Ext.setCellF _ _ _ (by first | omega | simp) ?_ | refine Ext.setCell ?_ (.inr (by first | omega | simp)) _)), _, rfl, ints_box _ [0, 1, 3] _ _ (Bx.new _ _ _) (by decide) (by intro x hx; simp at hx; rcases hx with rfl | rfl | rfl <;> exact i64_lit (by decide) (by decide))⟩
    · intro a' w' hx hs hd
      obtain ⟨y, rfl⟩ := hx.ew
      have e9 : a'.tmps[9]?.getD undef = .agg #[.int .i64 1, .int .i64 1, .int .i64 6, .string ByteArray.empty, .float .f64 0, .int .i64 7] := hd 2 9 rfl rfl
      obtain ⟨g, e10, hI⟩ : ∃ g, a'.tmps[10]?.getD undef = .slice (some ⟨g, 0, none⟩) 3 3 ∧ Ints y.on (some ⟨g, 0, none⟩) 3 [0, 1, 3] := hd 3 10 rfl rfl
      clear hs hd
      refine ⟨rfl, ?_⟩
      go_simp
      have HI := Go.Lib.hid hI; clear hI
      exact (law16_cert 0 0 3 1 1 6 ByteArray.empty 0 7 (i64_lit (by decide) (by decide)) (i64_lit (by decide) (by decide)) (i64_lit (by decide) (by decide)) rL_ok (some ⟨g, 0, none⟩) 3 [0, 1, 3] (by decide) _ HI.out).mono (fun e w'' ⟨sa, scap, he, hs, hx⟩ => ⟨_, he, hx, sa, scap, rfl, hs⟩)
    · intro a' w' hx hs hd
      obtain ⟨y, rfl⟩ := hx.ew
      obtain ⟨sa, scap, e11, hI⟩ : ∃ sa scap, a'.tmps[11]?.getD undef = .agg #[.int .i64 0, .int .i64 3, .int .i64 1, .int .i64 1, .int .i64 6, .string ByteArray.empty, .float .f64 0, .int .i64 7, .slice sa 3 scap] ∧ Sigs y.on sa scap sgL := hd 4 11 rfl rfl
      clear hs hd
      refine ⟨rfl, ?_⟩
      go_simp
      exact ⟨by (repeat (first | with_reducible exact Ext.refl _ _ | assumption | with_reducible refine Ext.upN ?_ | with_reducible refine Ext.alloc ?_ _ | with_reducible refine Ext.upA (by assumption) ?_ | with_reducible refine Ext.upW ?_ | with_reducible refine Ext.drew ?_ | with_reducible refine Ext.drewN ?_ _ | with_reducible refine Ext.upF ?_ | with_reducible refine Ext.upFF (by first | omega | simp) ?_ | with_reducible refine Ext.setCellsF _ _ _ (by first | omega | simp) ?_ | with_reducible refine Ext.setCellF _ _ _ (by first | omega | simp) ?_ | with_reducible refine Ext.upFN (by first | omega | simp) ?_ | with_reducible refine Ext.up1F (by first | omega | simp) ?_ | with_reducible refine Ext.up1N (by first | omega | simp) ?_ | with_reducible refine Ext.setCell ?_ (.inr (by first | omega | simp)) _ | refine Ext.alloc ?_ _ | refine Ext.setCellF _ _ _ (by first | omega | simp) ?_ | refine Ext.setCell ?_ (.inr (by first | omega | simp)) _)), _, rfl, certs_box _ _ _ sa scap ctL (Bx.new _ _ _) (hI.extN (by (repeat (first | with_reducible exact Ext.refl _ _ | assumption | with_reducible refine Ext.upN ?_ | with_reducible refine Ext.alloc ?_ _ | with_reducible refine Ext.upA (by assumption) ?_ | with_reducible refine Ext.upW ?_ | with_reducible refine Ext.drew ?_ | with_reducible refine Ext.drewN ?_ _ | with_reducible refine Ext.upF ?_ | with_reducible refine Ext.upFF (by first | omega | simp) ?_ | with_reducible refine Ext.setCellsF _ _ _ (by first | omega | simp) ?_ | with_reducible refine Ext.setCellF _ _ _ (by first | omega | simp) ?_ | with_reducible refine Ext.upFN (by first | omega | simp) ?_ | with_reducible refine Ext.up1F (by first | omega | simp) ?_ | with_reducible refine Ext.up1N (by first | omega | simp) ?_ | with_reducible refine Ext.setCell ?_ (.inr (by first | omega | simp)) _ | refine Ext.alloc ?_ _ | refine Ext.setCellF _ _ _ (by first | omega | simp) ?_ | refine Ext.setCell ?_ (.inr (by first | omega | simp)) _)))) rL_ok (i64_lit (by decide) (by decide)) (i64_lit (by decide) (by decide))⟩
    · intro a' w' hx hs hd
      obtain ⟨y, rfl⟩ := hx.ew
      obtain ⟨g, e12, hI⟩ : ∃ g, a'.tmps[12]?.getD undef = .slice (some ⟨g, 0, none⟩) 1 1 ∧ Certs y.on (some ⟨g, 0, none⟩) 1 [ctL] := hd 5 12 rfl rfl
      clear hs hd
      refine ⟨rfl, ?_⟩
      go_simp
      exact ⟨by (repeat (first | with_reducible exact Ext.refl _ _ | assumption | with_reducible refine Ext.upN ?_ | with_reducible refine Ext.alloc ?_ _ | with_reducible refine Ext.upA (by assumption) ?_ | with_reducible refine Ext.upW ?_ | with_reducible refine Ext.drew ?_ | with_reducible refine Ext.drewN ?_ _ | with_reducible refine Ext.upF ?_ | with_reducible refine Ext.upFF (by first | omega | simp) ?_ | with_reducible refine Ext.setCellsF _ _ _ (by first | omega | simp) ?_ | with_reducible refine Ext.setCellF _ _ _ (by first | omega | simp) ?_ | with_reducible refine Ext.upFN (by first | omega | simp) ?_ | with_reducible refine Ext.up1F (by first | omega | simp) ?_ | with_reducible refine Ext.up1N (by first | omega | simp) ?_ | with_reducible refine Ext.setCell ?_ (.inr (by first | omega | simp)) _ | refine Ext.alloc ?_ _ | refine Ext.setCellF _ _ _ (by first | omega | simp) ?_ | refine Ext.setCell ?_ (.inr (by first | omega | simp)) _)), _, rfl, hI⟩
    · intro a' w' hx hs hd
      obtain ⟨y, rfl⟩ := hx.ew
      obtain ⟨g, e13, hI⟩ : ∃ g, a'.tmps[13]?.getD undef = .agg #[.int .i64 1, .int .i64 1, .slice (some ⟨g, 0, none⟩) 1 1, .int .i64 0, .string ByteArray.empty] ∧ Certs y.on (some ⟨g, 0, none⟩) 1 [ctL] := hd 6 13 rfl rfl
      clear hs hd
      refine ⟨rfl, ?_⟩
      go_simp
      have HI := Go.Lib.hid hI; clear hI
      exact (law16_signed 0 1 1 0 ByteArray.empty (some ⟨g, 0, none⟩) 1 [ctL] (i64_lit (by decide) (by decide)) (i64_lit (by decide) (by decide)) (i64_lit (by decide) (by decide)) _ HI.out).mono (fun e w'' ⟨he, hx⟩ => ⟨_, he, hx, g, rfl, HI.out.extN hx⟩)
    · intro a' w' hx hs hd
      obtain ⟨y, rfl⟩ := hx.ew
      clear hs hd
      refine ⟨rfl, ?_⟩
      go_simp
      exact ⟨by (repeat (first | with_reducible exact Ext.refl _ _ | assumption | with_reducible refine Ext.upN ?_ | with_reducible refine Ext.alloc ?_ _ | with_reducible refine Ext.upA (by assumption) ?_ | with_reducible refine Ext.upW ?_ | with_reducible refine Ext.drew ?_ | with_reducible refine Ext.drewN ?_ _ | with_reducible refine Ext.upF ?_ | with_reducible refine Ext.upFF (by first | omega | simp) ?_ | with_reducible refine Ext.setCellsF _ _ _ (by first | omega | simp) ?_ | with_reducible refine Ext.setCellF _ _ _ (by first | omega | simp) ?_ | with_reducible refine Ext.upFN (by first | omega | simp) ?_ | with_reducible refine Ext.up1F (by first | omega | simp) ?_ | with_reducible refine Ext.up1N (by first | omega | simp) ?_ | with_reducible refine Ext.setCell ?_ (.inr (by first | omega | simp)) _ | refine Ext.alloc ?_ _ | refine Ext.setCellF _ _ _ (by first | omega | simp) ?_ | refine Ext.setCell ?_ (.inr (by first | omega | simp)) _)), rfl⟩
    · intro a' w' hx hs hd
      obtain ⟨y, rfl⟩ := hx.ew
      have e15 : a'.tmps[15]?.getD undef = .agg #[.int .i64 3, .int .i64 1, .slice none 0 0, .int .i64 0, .string ByteArray.empty] := hd 8 15 rfl rfl
      clear hs hd
      refine ⟨rfl, ?_⟩
      go_simp
      exact (law16_signed 0 3 1 0 ByteArray.empty none 0 [] (i64_lit (by decide) (by decide)) (i64_lit (by decide) (by decide)) (i64_lit (by decide) (by decide)) _ (certs_nil _)).mono (fun e w'' ⟨he, hx⟩ => ⟨_, he, hx, rfl⟩)
    · intro a' w' hx hs hd
      obtain ⟨y, rfl⟩ := hx.ew
      have e8 : a'.tmps[8]?.getD undef = .agg #[.int .i64 0, .int .i64 1, .slice none 0 0, .int .i64 0, .string (txL 0 [])] := hd 1 8 rfl rfl
      obtain ⟨g, e14, hI⟩ : ∃ g, a'.tmps[14]?.getD undef = .agg #[.int .i64 1, .int .i64 1, .slice (some ⟨g, 0, none⟩) 1 1, .int .i64 1, .string (txL 1 [ctL])] ∧ Certs y.on (some ⟨g, 0, none⟩) 1 [ctL] := hd 7 14 rfl rfl
      have e16 : a'.tmps[16]?.getD undef = .agg #[.int .i64 3, .int .i64 1, .slice none 0 0, .int .i64 3, .string (txL 3 [])] := hd 9 16 rfl rfl
      clear hs hd
      refine ⟨rfl, ?_⟩
      go_simp
      exact ⟨by (repeat (first | with_reducible exact Ext.refl _ _ | assumption | with_reducible refine Ext.upN ?_ | with_reducible refine Ext.alloc ?_ _ | with_reducible refine Ext.upA (by assumption) ?_ | with_reducible refine Ext.upW ?_ | with_reducible refine Ext.drew ?_ | with_reducible refine Ext.drewN ?_ _ | with_reducible refine Ext.upF ?_ | with_reducible refine Ext.upFF (by first | omega | simp) ?_ | with_reducible refine Ext.setCellsF _ _ _ (by first | omega | simp) ?_ | with_reducible refine Ext.setCellF _ _ _ (by first | omega | simp) ?_ | with_reducible refine Ext.upFN (by first | omega | simp) ?_ | with_reducible refine Ext.up1F (by first | omega | simp) ?_ | with_reducible refine Ext.up1N (by first | omega | simp) ?_ | with_reducible refine Ext.setCell ?_ (.inr (by first | omega | simp)) _ | refine Ext.alloc ?_ _ | refine Ext.setCellF _ _ _ (by first | omega | simp) ?_ | refine Ext.setCell ?_ (.inr (by first | omega | simp)) _)), _, rfl, chs_box _ _ _ g (Bx.new _ _ _) (hI.extN (by (repeat (first | with_reducible exact Ext.refl _ _ | assumption | with_reducible refine Ext.upN ?_ | with_reducible refine Ext.alloc ?_ _ | with_reducible refine Ext.upA (by assumption) ?_ | with_reducible refine Ext.upW ?_ | with_reducible refine Ext.drew ?_ | with_reducible refine Ext.drewN ?_ _ | with_reducible refine Ext.upF ?_ | with_reducible refine Ext.upFF (by first | omega | simp) ?_ | with_reducible refine Ext.setCellsF _ _ _ (by first | omega | simp) ?_ | with_reducible refine Ext.setCellF _ _ _ (by first | omega | simp) ?_ | with_reducible refine Ext.upFN (by first | omega | simp) ?_ | with_reducible refine Ext.up1F (by first | omega | simp) ?_ | with_reducible refine Ext.up1N (by first | omega | simp) ?_ | with_reducible refine Ext.setCell ?_ (.inr (by first | omega | simp)) _ | refine Ext.alloc ?_ _ | refine Ext.setCellF _ _ _ (by first | omega | simp) ?_ | refine Ext.setCell ?_ (.inr (by first | omega | simp)) _))))⟩
    · intro a' w' hx hs hd
      obtain ⟨y, rfl⟩ := hx.ew
      obtain ⟨g, e17, hI⟩ : ∃ g, a'.tmps[17]?.getD undef = .slice (some ⟨g, 0, none⟩) 3 3 ∧ Chs y.on (some ⟨g, 0, none⟩) 3 lL := hd 10 17 rfl rfl
      clear hs hd
      refine ⟨rfl, ?_⟩
      go_simp
      exact ⟨by (repeat (first | with_reducible exact Ext.refl _ _ | assumption | with_reducible refine Ext.upN ?_ | with_reducible refine Ext.alloc ?_ _ | with_reducible refine Ext.upA (by assumption) ?_ | with_reducible refine Ext.upW ?_ | with_reducible refine Ext.drew ?_ | with_reducible refine Ext.drewN ?_ _ | with_reducible refine Ext.upF ?_ | with_reducible refine Ext.upFF (by first | omega | simp) ?_ | with_reducible refine Ext.setCellsF _ _ _ (by first | omega | simp) ?_ | with_reducible refine Ext.setCellF _ _ _ (by first | omega | simp) ?_ | with_reducible refine Ext.upFN (by first | omega | simp) ?_ | with_reducible refine Ext.up1F (by first | omega | simp) ?_ | with_reducible refine Ext.up1N (by first | omega | simp) ?_ | with_reducible refine Ext.setCell ?_ (.inr (by first | omega | simp)) _ | refine Ext.alloc ?_ _ | refine Ext.setCellF _ _ _ (by first | omega | simp) ?_ | refine Ext.setCell ?_ (.inr (by first | omega | simp)) _)), _, rfl, hI⟩
  case q =>
    intro vs w' hx hR
    obtain ⟨y, rfl⟩ := hx.ew
    obtain ⟨g, v11, hC⟩ : ∃ g, vs 11 = .slice (some ⟨g, 0, none⟩) 3 3 ∧ Chs y.on (some ⟨g, 0, none⟩) 3 lL := hR 11 (by decide)
    have HC := Go.Lib.hid hC
    clear hC hR
    simp only [putAll, List.take_succ_cons, List.take_zero, List.drop_succ_cons, List.drop_zero, Act.put, List.setIfInBounds_toArray, List.set_cons_zero, List.set_cons_succ, Nat.reduceAdd, Nat.zero_add]
    simp only [v11]
    go_wp2_with fail
    refine (law16_four _).mono ?_
    rintro e _ ⟨b, rfl, hI, hx2⟩
    obtain ⟨x2, rfl⟩ := hx2.ew
    have HI := Go.Lib.hid hI; clear hI
    go_wp2_with fail
    refine (change_Pick 0 (some ⟨b, 0, none⟩) 4 [0, 1, 2, 3] 1 (some ⟨g, 0, none⟩) 3 lL (i64_lit (by decide) (by decide)) _ HI.out (HC.out.extN (by (repeat (first | with_reducible exact Ext.refl _ _ | assumption | with_reducible refine Ext.upN ?_ | with_reducible refine Ext.alloc ?_ _ | with_reducible refine Ext.upA (by assumption) ?_ | with_reducible refine Ext.upW ?_ | with_reducible refine Ext.drew ?_ | with_reducible refine Ext.drewN ?_ _ | with_reducible refine Ext.upF ?_ | with_reducible refine Ext.upFF (by first | omega | simp) ?_ | with_reducible refine Ext.setCellsF _ _ _ (by first | omega | simp) ?_ | with_reducible refine Ext.setCellF _ _ _ (by first | omega | simp) ?_ | with_reducible refine Ext.upFN (by first | omega | simp) ?_ | with_reducible refine Ext.up1F (by first | omega | simp) ?_ | with_reducible refine Ext.up1N (by first | omega | simp) ?_ | with_reducible refine Ext.setCell ?_ (.inr (by first | omega | simp)) _ | refine Ext.alloc ?_ _ | refine Ext.setCellF _ _ _ (by first | omega | simp) ?_ | refine Ext.setCell ?_ (.inr (by first | omega | simp)) _))))).mono ?_
    rintro e _ ⟨v, rfl, hO, hx3⟩
    obtain ⟨x3, rfl⟩ := hx3.ew
    rw [show pickL 0 [0, 1, 2, 3] 1 lL = pickR 0 lL from if_pos lives_check] at hO
    obtain ⟨ra, rcap, rfl, hRq⟩ := reqs_of_own hO
    rw [lives_check, lives_len]
    have HRq := Go.Lib.hid hRq; clear hRq hO
    go_wp2_with fail
    rw [lives_pick] at HRq
    obtain ⟨rb, ro, rfl, hrb, k0⟩ := HRq.out.at_ 0 (by decide)
    obtain ⟨rb', ro', e', hrb', k2⟩ := HRq.out.at_ 2 (by decide)
    injection e' with e'; injection e' with e1 e2; subst e1; subst e2
    obtain ⟨g', go', ca, cc, e', hgb, kc, hcc, -⟩ := HC.out.at_ 1 (by decide)
    injection e' with e'; injection e' with e1 e2; subst e1; subst e2
    have HCc : Hid (Certs y.on ca cc [ctL]) := Go.Lib.hid hcc
    have k00 : x3.on.cell? ⟨rb, ro, none⟩ = some (.int .i64 0) := k0 0 _ rfl
    have k01 : x3.on.cell? ⟨rb, ro + 1, none⟩ = some (.int .i64 0) := k0 1 _ rfl
    have k02 : x3.on.cell? ⟨rb, ro + 2, none⟩ = some (.int .i64 0) := k0 2 _ rfl
    have k03 : x3.on.cell? ⟨rb, ro + 3, none⟩ = some (.string ByteArray.empty) := k0 3 _ rfl
    have k04 : x3.on.cell? ⟨rb, ro + 4, none⟩ = some (.float .f64 0) := k0 4 _ rfl
    have k05 : x3.on.cell? ⟨rb, ro + 5, none⟩ = some (.int .i64 0) := k0 5 _ rfl
    have k20 : x3.on.cell? ⟨rb, ro + 12, none⟩ = some (.int .i64 1) := k2 0 _ rfl
    have k21 : x3.on.cell? ⟨rb, ro + 13, none⟩ = some (.int .i64 1) := k2 1 _ rfl
    have k22 : x3.on.cell? ⟨rb, ro + 14, none⟩ = some (.int .i64 6) := k2 2 _ rfl
    have k23 : x3.on.cell? ⟨rb, ro + 15, none⟩ = some (.string ByteArray.empty) := k2 3 _ rfl
    have k24 : x3.on.cell? ⟨rb, ro + 16, none⟩ = some (.float .f64 0) := k2 4 _ rfl
    have k25 : x3.on.cell? ⟨rb, ro + 17, none⟩ = some (.int .i64 7) := k2 5 _ rfl
    have kc0 : y.on.cell? ⟨g, 5, none⟩ = some (.int .i64 1) := kc 0 _ rfl
    have kc1 : y.on.cell? ⟨g, 6, none⟩ = some (.int .i64 1) := kc 1 _ rfl
    have kc2 : y.on.cell? ⟨g, 7, none⟩ = some (.slice ca 1 cc) := kc 2 _ rfl
    have kc3 : y.on.cell? ⟨g, 8, none⟩ = some (.int .i64 1) := kc 3 _ rfl
    have kc4 : y.on.cell? ⟨g, 9, none⟩ = some (.string (txL 1 [ctL])) := kc 4 _ rfl
    clear k0 k2 kc hcc
    refine wp_region_rel (relR [Mo.is (.int .i64 0), Mo.is (.bool true), Mo.is (.bool true), Mo.is (.slice (some ⟨rb, ro, none⟩) 3 rcap), Mo.is (.int .i64 3), Mo.is (.bool true), Mo.is (.bool true), Mo.is (.bool true), Mo.is (.slice (some ⟨rb, ro, none⟩) 3 rcap), Mo.is (.pointer (some ⟨rb, ro, none⟩)), Mo.is (.agg #[.int .i64 0, .int .i64 0, .int .i64 0, .string ByteArray.empty, .float .f64 0, .int .i64 0]), Mo.is (.bool true), Mo.is (.bool true), Mo.is (.bool true), Mo.is (.slice (some ⟨rb, ro, none⟩) 3 rcap), Mo.is (.pointer (some ⟨rb, ro + 12, none⟩)), Mo.is (.agg #[.int .i64 1, .int .i64 1, .int .i64 6, .string ByteArray.empty, .float .f64 0, .int .i64 7]), Mo.is (.agg #[.int .i64 1, .int .i64 1, .int .i64 6, .string ByteArray.empty, .float .f64 0, .int .i64 7]), Mo.is (.bool true), Mo.is (.bool true), Mo.is (.bool true), moF, Mo.is (.slice (some ⟨g, 0, none⟩) 3 3), Mo.is (.pointer (some ⟨g, 5, none⟩)), Mo.is (.agg #[.int .i64 1, .int .i64 1, .slice ca 1 cc, .int .i64 1, .string (txL 1 [ctL])]), Mo.is (.int .i64 0), Mo.is (.bool true), Mo.is (.bool true), Mo.is (.bool true), moF, Mo.is (.agg #[.int .i64 1, .int .i64 1, .slice none 0 0, .int .i64 0, .string ByteArray.empty]), Mo.is (.int .i64 16), Mo.is (.bool true), Mo.is (.bool true), Mo.is (.bool true)]) (by kernel_rfl) (by kernel_rfl) (by kernel_rfl) (relR_mono _) (StepL.all ?st) ?q
    case st =>
      refine ⟨?_, ?_, ?_, ?_, ?_, ?_, ?_, ?_, ?_, ?_, ?_, ?_, ?_, ?_, ?_, ?_, ?_, ?_, ?_, ?_, ?_, ?_, ?_, ?_, ?_, ?_, ?_, ?_, ?_, ?_, ?_, ?_, ?_, ?_, ?_, trivial⟩
      · intro a' w' hx hs hd
        obtain ⟨y, rfl⟩ := hx.ew
        have e4 : a'.tmps[4]?.getD undef = .int .i64 0 := hs 4 rfl
        clear hs hd
        refine ⟨rfl, ?_⟩
        go_simp
        exact ⟨by (repeat (first | with_reducible exact Ext.refl _ _ | assumption | with_reducible refine Ext.upN ?_ | with_reducible refine Ext.alloc ?_ _ | with_reducible refine Ext.upA (by assumption) ?_ | with_reducible refine Ext.upW ?_ | with_reducible refine Ext.drew ?_ | with_reducible refine Ext.drewN ?_ _ | with_reducible refine Ext.upF ?_ | with_reducible refine Ext.upFF (by first | omega | simp) ?_ | with_reducible refine Ext.setCellsF _ _ _ (by first | omega | simp) ?_ | with_reducible refine Ext.setCellF _ _ _ (by first | omega | simp) ?_ | with_reducible refine Ext.upFN (by first | omega | simp) ?_ | with_reducible refine Ext.up1F (by first | omega | simp) ?_ | with_reducible refine Ext.up1N (by first | omega | simp) ?_ | with_reducible refine Ext.setCell ?_ (.inr (by first | omega | simp)) _ | refine Ext.alloc ?_ _ | refine Ext.setCellF _ _ _ (by first | omega | simp) ?_ | refine Ext.setCell ?_ (.inr (by first | omega | simp)) _)), rfl⟩
      · intro a' w' hx hs hd
        obtain ⟨y, rfl⟩ := hx.ew
        have e24 : a'.tmps[24]?.getD undef = .int .i64 0 := hd 0 24 rfl rfl
        clear hs hd
        refine ⟨rfl, ?_⟩
        go_simp
        exact ⟨by (repeat (first | with_reducible exact Ext.refl _ _ | assumption | with_reducible refine Ext.upN ?_ | with_reducible refine Ext.alloc ?_ _ | with_reducible refine Ext.upA (by assumption) ?_ | with_reducible refine Ext.upW ?_ | with_reducible refine Ext.drew ?_ | with_reducible refine Ext.drewN ?_ _ | with_reducible refine Ext.upF ?_ | with_reducible refine Ext.upFF (by first | omega | simp) ?_ | with_reducible refine Ext.setCellsF _ _ _ (by first | omega | simp) ?_ | with_reducible refine Ext.setCellF _ _ _ (by first | omega | simp) ?_ | with_reducible refine Ext.upFN (by first | omega | simp) ?_ | with_reducible refine Ext.up1F (by first | omega | simp) ?_ | with_reducible refine Ext.up1N (by first | omega | simp) ?_ | with_reducible refine Ext.setCell ?_ (.inr (by first | omega | simp)) _ | refine Ext.alloc ?_ _ | refine Ext.setCellF _ _ _ (by first | omega | simp) ?_ | refine Ext.setCell ?_ (.inr (by first | omega | simp)) _)), rfl⟩
      · intro a' w' hx hs hd
        obtain ⟨y, rfl⟩ := hx.ew
        have e25 : a'.tmps[25]?.getD undef = .bool true := hd 1 25 rfl rfl
        clear hs hd
        refine ⟨rfl, ?_⟩
        go_simp
        exact ⟨by (repeat (first | with_reducible exact Ext.refl _ _ | assumption | with_reducible refine Ext.upN ?_ | with_reducible refine Ext.alloc ?_ _ | with_reducible refine Ext.upA (by assumption) ?_ | with_reducible refine Ext.upW ?_ | with_reducible refine Ext.drew ?_ | with_reducible refine Ext.drewN ?_ _ | with_reducible refine Ext.upF ?_ | with_reducible refine Ext.upFF (by first | omega | simp) ?_ | with_reducible refine Ext.setCellsF _ _ _ (by first | omega | simp) ?_ | with_reducible refine Ext.setCellF _ _ _ (by first | omega | simp) ?_ | with_reducible refine Ext.upFN (by first | omega | simp) ?_ | with_reducible refine Ext.up1F (by first | omega | simp) ?_ | with_reducible refine Ext.up1N (by first | omega | simp) ?_ | with_reducible refine Ext.setCell ?_ (.inr (by first | omega | simp)) _ | refine Ext.alloc ?_ _ | refine Ext.setCellF _ _ _ (by first | omega | simp) ?_ | refine Ext.setCell ?_ (.inr (by first | omega | simp)) _)), rfl⟩
      · intro a' w' hx hs hd
        obtain ⟨y, rfl⟩ := hx.ew
        have e3 : a'.tmps[3]?.getD undef = .slice (some ⟨rb, ro, none⟩) 3 rcap := hs 3 rfl
        have eg : a'.tmps[26]?.getD undef = .bool true := hd 2 26 rfl rfl
        refine ⟨wanted_of (j := 2) (d := 26) rfl rfl eg, ?_⟩
        clear hs hd eg
        go_simp
        exact ⟨by (repeat (first | with_reducible exact Ext.refl _ _ | assumption | with_reducible refine Ext.upN ?_ | with_reducible refine Ext.alloc ?_ _ | with_reducible refine Ext.upA (by assumption) ?_ | with_reducible refine Ext.upW ?_ | with_reducible refine Ext.drew ?_ | with_reducible refine Ext.drewN ?_ _ | with_reducible refine Ext.upF ?_ | with_reducible refine Ext.upFF (by first | omega | simp) ?_ | with_reducible refine Ext.setCellsF _ _ _ (by first | omega | simp) ?_ | with_reducible refine Ext.setCellF _ _ _ (by first | omega | simp) ?_ | with_reducible refine Ext.upFN (by first | omega | simp) ?_ | with_reducible refine Ext.up1F (by first | omega | simp) ?_ | with_reducible refine Ext.up1N (by first | omega | simp) ?_ | with_reducible refine Ext.setCell ?_ (.inr (by first | omega | simp)) _ | refine Ext.alloc ?_ _ | refine Ext.setCellF _ _ _ (by first | omega | simp) ?_ | refine Ext.setCell ?_ (.inr (by first | omega | simp)) _)), rfl⟩
      · intro a' w' hx hs hd
        obtain ⟨y, rfl⟩ := hx.ew
        have e27 : a'.tmps[27]?.getD undef = .slice (some ⟨rb, ro, none⟩) 3 rcap := hd 3 27 rfl rfl
        have eg : a'.tmps[26]?.getD undef = .bool true := hd 2 26 rfl rfl
        refine ⟨wanted_of (j := 2) (d := 26) rfl rfl eg, ?_⟩
        clear hs hd eg
        go_simp
        exact ⟨by (repeat (first | with_reducible exact Ext.refl _ _ | assumption | with_reducible refine Ext.upN ?_ | with_reducible refine Ext.alloc ?_ _ | with_reducible refine Ext.upA (by assumption) ?_ | with_reducible refine Ext.upW ?_ | with_reducible refine Ext.drew ?_ | with_reducible refine Ext.drewN ?_ _ | with_reducible refine Ext.upF ?_ | with_reducible refine Ext.upFF (by first | omega | simp) ?_ | with_reducible refine Ext.setCellsF _ _ _ (by first | omega | simp) ?_ | with_reducible refine Ext.setCellF _ _ _ (by first | omega | simp) ?_ | with_reducible refine Ext.upFN (by first | omega | simp) ?_ | with_reducible refine Ext.up1F (by first | omega | simp) ?_ | with_reducible refine Ext.up1N (by first | omega | simp) ?_ | with_reducible refine Ext.setCell ?_ (.inr (by first | omega | simp)) _ | refine Ext.alloc ?_ _ | refine Ext.setCellF _ _ _ (by first | omega | simp) ?_ | refine Ext.setCell ?_ (.inr (by first | omega | simp)) _)), rfl⟩
      · intro a' w' hx hs hd
        obtain ⟨y, rfl⟩ := hx.ew
        have e28 : a'.tmps[28]?.getD undef = .int .i64 3 := hd 4 28 rfl rfl
        have eg : a'.tmps[26]?.getD undef = .bool true := hd 2 26 rfl rfl
        refine ⟨wanted_of (j := 2) (d := 26) rfl rfl eg, ?_⟩
        clear hs hd eg
        go_simp
        exact ⟨by (repeat (first | with_reducible exact Ext.refl _ _ | assumption | with_reducible refine Ext.upN ?_ | with_reducible refine Ext.alloc ?_ _ | with_reducible refine Ext.upA (by assumption) ?_ | with_reducible refine Ext.upW ?_ | with_reducible refine Ext.drew ?_ | with_reducible refine Ext.drewN ?_ _ | with_reducible refine Ext.upF ?_ | with_reducible refine Ext.upFF (by first | omega | simp) ?_ | with_reducible refine Ext.setCellsF _ _ _ (by first | omega | simp) ?_ | with_reducible refine Ext.setCellF _ _ _ (by first | omega | simp) ?_ | with_reducible refine Ext.upFN (by first | omega | simp) ?_ | with_reducible refine Ext.up1F (by first | omega | simp) ?_ | with_reducible refine Ext.up1N (by first | omega | simp) ?_ | with_reducible refine Ext.setCell ?_ (.inr (by first | omega | simp)) _ | refine Ext.alloc ?_ _ | refine Ext.setCellF _ _ _ (by first | omega | simp) ?_ | refine Ext.setCell ?_ (.inr (by first | omega | simp)) _)), rfl⟩
      · intro a' w' hx hs hd
        obtain ⟨y, rfl⟩ := hx.ew
        have e26 : a'.tmps[26]?.getD undef = .bool true := hd 2 26 rfl rfl
        have e29 : a'.tmps[29]?.getD undef = .bool true := hd 5 29 rfl rfl
        clear hs hd
        refine ⟨rfl, ?_⟩
        go_simp
        exact ⟨by (repeat (first | with_reducible exact Ext.refl _ _ | assumption | with_reducible refine Ext.upN ?_ | with_reducible refine Ext.alloc ?_ _ | with_reducible refine Ext.upA (by assumption) ?_ | with_reducible refine Ext.upW ?_ | with_reducible refine Ext.drew ?_ | with_reducible refine Ext.drewN ?_ _ | with_reducible refine Ext.upF ?_ | with_reducible refine Ext.upFF (by first | omega | simp) ?_ | with_reducible refine Ext.setCellsF _ _ _ (by first | omega | simp) ?_ | with_reducible refine Ext.setCellF _ _ _ (by first | omega | simp) ?_ | with_reducible refine Ext.upFN (by first | omega | simp) ?_ | with_reducible refine Ext.up1F (by first | omega | simp) ?_ | with_reducible refine Ext.up1N (by first | omega | simp) ?_ | with_reducible refine Ext.setCell ?_ (.inr (by first | omega | simp)) _ | refine Ext.alloc ?_ _ | refine Ext.setCellF _ _ _ (by first | omega | simp) ?_ | refine Ext.setCell ?_ (.inr (by first | omega | simp)) _)), rfl⟩
      · intro a' w' hx hs hd
        obtain ⟨y, rfl⟩ := hx.ew
        have e30 : a'.tmps[30]?.getD undef = .bool true := hd 6 30 rfl rfl
        clear hs hd
        refine ⟨rfl, ?_⟩
        go_simp
        exact ⟨by (repeat (first | with_reducible exact Ext.refl _ _ | assumption | with_reducible refine Ext.upN ?_ | with_reducible refine Ext.alloc ?_ _ | with_reducible refine Ext.upA (by assumption) ?_ | with_reducible refine Ext.upW ?_ | with_reducible refine Ext.drew ?_ | with_reducible refine Ext.drewN ?_ _ | with_reducible refine Ext.upF ?_ | with_reducible refine Ext.upFF (by first | omega | simp) ?_ | with_reducible refine Ext.setCellsF _ _ _ (by first | omega | simp) ?_ | with_reducible refine Ext.setCellF _ _ _ (by first | omega | simp) ?_ | with_reducible refine Ext.upFN (by first | omega | simp) ?_ | with_reducible refine Ext.up1F (by first | omega | simp) ?_ | with_reducible refine Ext.up1N (by first | omega | simp) ?_ | with_reducible refine Ext.setCell ?_ (.inr (by first | omega | simp)) _ | refine Ext.alloc ?_ _ | refine Ext.setCellF _ _ _ (by first | omega | simp) ?_ | refine Ext.setCell ?_ (.inr (by first | omega | simp)) _)), rfl⟩
      · intro a' w' hx hs hd
        obtain ⟨y, rfl⟩ := hx.ew
        have e3 : a'.tmps[3]?.getD undef = .slice (some ⟨rb, ro, none⟩) 3 rcap := hs 3 rfl
        have eg : a'.tmps[31]?.getD undef = .bool true := hd 7 31 rfl rfl
        refine ⟨wanted_of (j := 7) (d := 31) rfl rfl eg, ?_⟩
        clear hs hd eg
        go_simp
        exact ⟨by (repeat (first | with_reducible exact Ext.refl _ _ | assumption | with_reducible refine Ext.upN ?_ | with_reducible refine Ext.alloc ?_ _ | with_reducible refine Ext.upA (by assumption) ?_ | with_reducible refine Ext.upW ?_ | with_reducible refine Ext.drew ?_ | with_reducible refine Ext.drewN ?_ _ | with_reducible refine Ext.upF ?_ | with_reducible refine Ext.upFF (by first | omega | simp) ?_ | with_reducible refine Ext.setCellsF _ _ _ (by first | omega | simp) ?_ | with_reducible refine Ext.setCellF _ _ _ (by first | omega | simp) ?_ | with_reducible refine Ext.upFN (by first | omega | simp) ?_ | with_reducible refine Ext.up1F (by first | omega | simp) ?_ | with_reducible refine Ext.up1N (by first | omega | simp) ?_ | with_reducible refine Ext.setCell ?_ (.inr (by first | omega | simp)) _ | refine Ext.alloc ?_ _ | refine Ext.setCellF _ _ _ (by first | omega | simp) ?_ | refine Ext.setCell ?_ (.inr (by first | omega | simp)) _)), rfl⟩
      · intro a' w' hx hs hd
        obtain ⟨y, rfl⟩ := hx.ew
        have e32 : a'.tmps[32]?.getD undef = .slice (some ⟨rb, ro, none⟩) 3 rcap := hd 8 32 rfl rfl
        have eg : a'.tmps[31]?.getD undef = .bool true := hd 7 31 rfl rfl
        refine ⟨wanted_of (j := 7) (d := 31) rfl rfl eg, ?_⟩
        clear hs hd eg
        go_simp
        exact ⟨by (repeat (first | with_reducible exact Ext.refl _ _ | assumption | with_reducible refine Ext.upN ?_ | with_reducible refine Ext.alloc ?_ _ | with_reducible refine Ext.upA (by assumption) ?_ | with_reducible refine Ext.upW ?_ | with_reducible refine Ext.drew ?_ | with_reducible refine Ext.drewN ?_ _ | with_reducible refine Ext.upF ?_ | with_reducible refine Ext.upFF (by first | omega | simp) ?_ | with_reducible refine Ext.setCellsF _ _ _ (by first | omega | simp) ?_ | with_reducible refine Ext.setCellF _ _ _ (by first | omega | simp) ?_ | with_reducible refine Ext.upFN (by first | omega | simp) ?_ | with_reducible refine Ext.up1F (by first | omega | simp) ?_ | with_reducible refine Ext.up1N (by first | omega | simp) ?_ | with_reducible refine Ext.setCell ?_ (.inr (by first | omega | simp)) _ | refine Ext.alloc ?_ _ | refine Ext.setCellF _ _ _ (by first | omega | simp) ?_ | refine Ext.setCell ?_ (.inr (by first | omega | simp)) _)), rfl⟩
      · intro a' w' hx hs hd
        obtain ⟨y, rfl⟩ := hx.ew
        have e33 : a'.tmps[33]?.getD undef = .pointer (some ⟨rb, ro, none⟩) := hd 9 33 rfl rfl
        have eg : a'.tmps[31]?.getD undef = .bool true := hd 7 31 rfl rfl
        refine ⟨wanted_of (j := 7) (d := 31) rfl rfl eg, ?_⟩
        clear hs hd eg
        go_simp
        exact ⟨by (repeat (first | with_reducible exact Ext.refl _ _ | assumption | with_reducible refine Ext.upN ?_ | with_reducible refine Ext.alloc ?_ _ | with_reducible refine Ext.upA (by assumption) ?_ | with_reducible refine Ext.upW ?_ | with_reducible refine Ext.drew ?_ | with_reducible refine Ext.drewN ?_ _ | with_reducible refine Ext.upF ?_ | with_reducible refine Ext.upFF (by first | omega | simp) ?_ | with_reducible refine Ext.setCellsF _ _ _ (by first | omega | simp) ?_ | with_reducible refine Ext.setCellF _ _ _ (by first | omega | simp) ?_ | with_reducible refine Ext.upFN (by first | omega | simp) ?_ | with_reducible refine Ext.up1F (by first | omega | simp) ?_ | with_reducible refine Ext.up1N (by first | omega | simp) ?_ | with_reducible refine Ext.setCell ?_ (.inr (by first | omega | simp)) _ | refine Ext.alloc ?_ _ | refine Ext.setCellF _ _ _ (by first | omega | simp) ?_ | refine Ext.setCell ?_ (.inr (by first | omega | simp)) _)), rfl⟩
      · intro a' w' hx hs hd
        obtain ⟨y, rfl⟩ := hx.ew
        have e34 : a'.tmps[34]?.getD undef = .agg #[.int .i64 0, .int .i64 0, .int .i64 0, .string ByteArray.empty, .float .f64 0, .int .i64 0] := hd 10 34 rfl rfl
        have eg : a'.tmps[31]?.getD undef = .bool true := hd 7 31 rfl rfl
        refine ⟨wanted_of (j := 7) (d := 31) rfl rfl eg, ?_⟩
        clear hs hd eg
        go_simp
        exact (ref_Null 0 0 0 ByteArray.empty 0 0 _).mono (fun e w'' ⟨he, hx⟩ => ⟨_, he, hx, rfl⟩)
      · intro a' w' hx hs hd
        obtain ⟨y, rfl⟩ := hx.ew
        have e31 : a'.tmps[31]?.getD undef = .bool true := hd 7 31 rfl rfl
        have e35 : a'.tmps[35]?.getD undef = .bool true := hd 11 35 rfl rfl
        clear hs hd
        refine ⟨rfl, ?_⟩
        go_simp
        exact ⟨by (repeat (first | with_reducible exact Ext.refl _ _ | assumption | with_reducible refine Ext.upN ?_ | with_reducible refine Ext.alloc ?_ _ | with_reducible refine Ext.upA (by assumption) ?_ | with_reducible refine Ext.upW ?_ | with_reducible refine Ext.drew ?_ | with_reducible refine Ext.drewN ?_ _ | with_reducible refine Ext.upF ?_ | with_reducible refine Ext.upFF (by first | omega | simp) ?_ | with_reducible refine Ext.setCellsF _ _ _ (by first | omega | simp) ?_ | with_reducible refine Ext.setCellF _ _ _ (by first | omega | simp) ?_ | with_reducible refine Ext.upFN (by first | omega | simp) ?_ | with_reducible refine Ext.up1F (by first | omega | simp) ?_ | with_reducible refine Ext.up1N (by first | omega | simp) ?_ | with_reducible refine Ext.setCell ?_ (.inr (by first | omega | simp)) _ | refine Ext.alloc ?_ _ | refine Ext.setCellF _ _ _ (by first | omega | simp) ?_ | refine Ext.setCell ?_ (.inr (by first | omega | simp)) _)), rfl⟩
      · intro a' w' hx hs hd
        obtain ⟨y, rfl⟩ := hx.ew
        have e36 : a'.tmps[36]?.getD undef = .bool true := hd 12 36 rfl rfl
        clear hs hd
        refine ⟨rfl, ?_⟩
        go_simp
        exact ⟨by (repeat (first | with_reducible exact Ext.refl _ _ | assumption | with_reducible refine Ext.upN ?_ | with_reducible refine Ext.alloc ?_ _ | with_reducible refine Ext.upA (by assumption) ?_ | with_reducible refine Ext.upW ?_ | with_reducible refine Ext.drew ?_ | with_reducible refine Ext.drewN ?_ _ | with_reducible refine Ext.upF ?_ | with_reducible refine Ext.upFF (by first | omega | simp) ?_ | with_reducible refine Ext.setCellsF _ _ _ (by first | omega | simp) ?_ | with_reducible refine Ext.setCellF _ _ _ (by first | omega | simp) ?_ | with_reducible refine Ext.upFN (by first | omega | simp) ?_ | with_reducible refine Ext.up1F (by first | omega | simp) ?_ | with_reducible refine Ext.up1N (by first | omega | simp) ?_ | with_reducible refine Ext.setCell ?_ (.inr (by first | omega | simp)) _ | refine Ext.alloc ?_ _ | refine Ext.setCellF _ _ _ (by first | omega | simp) ?_ | refine Ext.setCell ?_ (.inr (by first | omega | simp)) _)), rfl⟩
      · intro a' w' hx hs hd
        obtain ⟨y, rfl⟩ := hx.ew
        have e3 : a'.tmps[3]?.getD undef = .slice (some ⟨rb, ro, none⟩) 3 rcap := hs 3 rfl
        have eg : a'.tmps[37]?.getD undef = .bool true := hd 13 37 rfl rfl
        refine ⟨wanted_of (j := 13) (d := 37) rfl rfl eg, ?_⟩
        clear hs hd eg
        go_simp
        exact ⟨by (repeat (first | with_reducible exact Ext.refl _ _ | assumption | with_reducible refine Ext.upN ?_ | with_reducible refine Ext.alloc ?_ _ | with_reducible refine Ext.upA (by assumption) ?_ | with_reducible refine Ext.upW ?_ | with_reducible refine Ext.drew ?_ | with_reducible refine Ext.drewN ?_ _ | with_reducible refine Ext.upF ?_ | with_reducible refine Ext.upFF (by first | omega | simp) ?_ | with_reducible refine Ext.setCellsF _ _ _ (by first | omega | simp) ?_ | with_reducible refine Ext.setCellF _ _ _ (by first | omega | simp) ?_ | with_reducible refine Ext.upFN (by first | omega | simp) ?_ | with_reducible refine Ext.up1F (by first | omega | simp) ?_ | with_reducible refine Ext.up1N (by first | omega | simp) ?_ | with_reducible refine Ext.setCell ?_ (.inr (by first | omega | simp)) _ | refine Ext.alloc ?_ _ | refine Ext.setCellF _ _ _ (by first | omega | simp) ?_ | refine Ext.setCell ?_ (.inr (by first | omega | simp)) _)), rfl⟩
      · intro a' w' hx hs hd
        obtain ⟨y, rfl⟩ := hx.ew
        have e38 : a'.tmps[38]?.getD undef = .slice (some ⟨rb, ro, none⟩) 3 rcap := hd 14 38 rfl rfl
        have eg : a'.tmps[37]?.getD undef = .bool true := hd 13 37 rfl rfl
        refine ⟨wanted_of (j := 13) (d := 37) rfl rfl eg, ?_⟩
        clear hs hd eg
        go_simp
        exact ⟨by (repeat (first | with_reducible exact Ext.refl _ _ | assumption | with_reducible refine Ext.upN ?_ | with_reducible refine Ext.alloc ?_ _ | with_reducible refine Ext.upA (by assumption) ?_ | with_reducible refine Ext.upW ?_ | with_reducible refine Ext.drew ?_ | with_reducible refine Ext.drewN ?_ _ | with_reducible refine Ext.upF ?_ | with_reducible refine Ext.upFF (by first | omega | simp) ?_ | with_reducible refine Ext.setCellsF _ _ _ (by first | omega | simp) ?_ | with_reducible refine Ext.setCellF _ _ _ (by first | omega | simp) ?_ | with_reducible refine Ext.upFN (by first | omega | simp) ?_ | with_reducible refine Ext.up1F (by first | omega | simp) ?_ | with_reducible refine Ext.up1N (by first | omega | simp) ?_ | with_reducible refine Ext.setCell ?_ (.inr (by first | omega | simp)) _ | refine Ext.alloc ?_ _ | refine Ext.setCellF _ _ _ (by first | omega | simp) ?_ | refine Ext.setCell ?_ (.inr (by first | omega | simp)) _)), rfl⟩
      · intro a' w' hx hs hd
        obtain ⟨y, rfl⟩ := hx.ew
        have e39 : a'.tmps[39]?.getD undef = .pointer (some ⟨rb, ro + 12, none⟩) := hd 15 39 rfl rfl
        have eg : a'.tmps[37]?.getD undef = .bool true := hd 13 37 rfl rfl
        refine ⟨wanted_of (j := 13) (d := 37) rfl rfl eg, ?_⟩
        clear hs hd eg
        go_simp
        exact ⟨by (repeat (first | with_reducible exact Ext.refl _ _ | assumption | with_reducible refine Ext.upN ?_ | with_reducible refine Ext.alloc ?_ _ | with_reducible refine Ext.upA (by assumption) ?_ | with_reducible refine Ext.upW ?_ | with_reducible refine Ext.drew ?_ | with_reducible refine Ext.drewN ?_ _ | with_reducible refine Ext.upF ?_ | with_reducible refine Ext.upFF (by first | omega | simp) ?_ | with_reducible refine Ext.setCellsF _ _ _ (by first | omega | simp) ?_ | with_reducible refine Ext.setCellF _ _ _ (by first | omega | simp) ?_ | with_reducible refine Ext.upFN (by first | omega | simp) ?_ | with_reducible refine Ext.up1F (by first | omega | simp) ?_ | with_reducible refine Ext.up1N (by first | omega | simp) ?_ | with_reducible refine Ext.setCell ?_ (.inr (by first | omega | simp)) _ | refine Ext.alloc ?_ _ | refine Ext.setCellF _ _ _ (by first | omega | simp) ?_ | refine Ext.setCell ?_ (.inr (by first | omega | simp)) _)), rfl⟩
      · intro a' w' hx hs hd
        obtain ⟨y, rfl⟩ := hx.ew
        have e1 : a'.tmps[1]?.getD undef = .pointer (some ⟨w.heap.size, 0, none⟩) := hs 1 rfl
        have eg : a'.tmps[37]?.getD undef = .bool true := hd 13 37 rfl rfl
        refine ⟨wanted_of (j := 13) (d := 37) rfl rfl eg, ?_⟩
        clear hs hd eg
        go_simp
        exact ⟨by (repeat (first | with_reducible exact Ext.refl _ _ | assumption | with_reducible refine Ext.upN ?_ | with_reducible refine Ext.alloc ?_ _ | with_reducible refine Ext.upA (by assumption) ?_ | with_reducible refine Ext.upW ?_ | with_reducible refine Ext.drew ?_ | with_reducible refine Ext.drewN ?_ _ | with_reducible refine Ext.upF ?_ | with_reducible refine Ext.upFF (by first | omega | simp) ?_ | with_reducible refine Ext.setCellsF _ _ _ (by first | omega | simp) ?_ | with_reducible refine Ext.setCellF _ _ _ (by first | omega | simp) ?_ | with_reducible refine Ext.upFN (by first | omega | simp) ?_ | with_reducible refine Ext.up1F (by first | omega | simp) ?_ | with_reducible refine Ext.up1N (by first | omega | simp) ?_ | with_reducible refine Ext.setCell ?_ (.inr (by first | omega | simp)) _ | refine Ext.alloc ?_ _ | refine Ext.setCellF _ _ _ (by first | omega | simp) ?_ | refine Ext.setCell ?_ (.inr (by first | omega | simp)) _)), rfl⟩
      · intro a' w' hx hs hd
        obtain ⟨y, rfl⟩ := hx.ew
        have e40 : a'.tmps[40]?.getD undef = .agg #[.int .i64 1, .int .i64 1, .int .i64 6, .string ByteArray.empty, .float .f64 0, .int .i64 7] := hd 16 40 rfl rfl
        have e41 : a'.tmps[41]?.getD undef = .agg #[.int .i64 1, .int .i64 1, .int .i64 6, .string ByteArray.empty, .float .f64 0, .int .i64 7] := hd 17 41 rfl rfl
        have eg : a'.tmps[37]?.getD undef = .bool true := hd 13 37 rfl rfl
        refine ⟨wanted_of (j := 13) (d := 37) rfl rfl eg, ?_⟩
        clear hs hd eg
        go_simp
        exact (ref11_Same 1 1 6 ByteArray.empty 0 7 1 1 6 ByteArray.empty 0 7 rL_ok rL_ok _).mono (fun e w'' ⟨he, hx⟩ => ⟨_, he, hx, congrArg Value.bool lives_same⟩)
      · intro a' w' hx hs hd
        obtain ⟨y, rfl⟩ := hx.ew
        have e37 : a'.tmps[37]?.getD undef = .bool true := hd 13 37 rfl rfl
        have e42 : a'.tmps[42]?.getD undef = .bool true := hd 18 42 rfl rfl
        clear hs hd
        refine ⟨rfl, ?_⟩
        go_simp
        exact ⟨by (repeat (first | with_reducible exact Ext.refl _ _ | assumption | with_reducible refine Ext.upN ?_ | with_reducible refine Ext.alloc ?_ _ | with_reducible refine Ext.upA (by assumption) ?_ | with_reducible refine Ext.upW ?_ | with_reducible refine Ext.drew ?_ | with_reducible refine Ext.drewN ?_ _ | with_reducible refine Ext.upF ?_ | with_reducible refine Ext.upFF (by first | omega | simp) ?_ | with_reducible refine Ext.setCellsF _ _ _ (by first | omega | simp) ?_ | with_reducible refine Ext.setCellF _ _ _ (by first | omega | simp) ?_ | with_reducible refine Ext.upFN (by first | omega | simp) ?_ | with_reducible refine Ext.up1F (by first | omega | simp) ?_ | with_reducible refine Ext.up1N (by first | omega | simp) ?_ | with_reducible refine Ext.setCell ?_ (.inr (by first | omega | simp)) _ | refine Ext.alloc ?_ _ | refine Ext.setCellF _ _ _ (by first | omega | simp) ?_ | refine Ext.setCell ?_ (.inr (by first | omega | simp)) _)), rfl⟩
      · intro a' w' hx hs hd
        obtain ⟨y, rfl⟩ := hx.ew
        have e43 : a'.tmps[43]?.getD undef = .bool true := hd 19 43 rfl rfl
        clear hs hd
        refine ⟨rfl, ?_⟩
        go_simp
        exact ⟨by (repeat (first | with_reducible exact Ext.refl _ _ | assumption | with_reducible refine Ext.upN ?_ | with_reducible refine Ext.alloc ?_ _ | with_reducible refine Ext.upA (by assumption) ?_ | with_reducible refine Ext.upW ?_ | with_reducible refine Ext.drew ?_ | with_reducible refine Ext.drewN ?_ _ | with_reducible refine Ext.upF ?_ | with_reducible refine Ext.upFF (by first | omega | simp) ?_ | with_reducible refine Ext.setCellsF _ _ _ (by first | omega | simp) ?_ | with_reducible refine Ext.setCellF _ _ _ (by first | omega | simp) ?_ | with_reducible refine Ext.upFN (by first | omega | simp) ?_ | with_reducible refine Ext.up1F (by first | omega | simp) ?_ | with_reducible refine Ext.up1N (by first | omega | simp) ?_ | with_reducible refine Ext.setCell ?_ (.inr (by first | omega | simp)) _ | refine Ext.alloc ?_ _ | refine Ext.setCellF _ _ _ (by first | omega | simp) ?_ | refine Ext.setCell ?_ (.inr (by first | omega | simp)) _)), rfl⟩
      · intro a' w' hx hs hd
        obtain ⟨y, rfl⟩ := hx.ew
        have eg : a'.tmps[44]?.getD undef = .bool true := hd 20 44 rfl rfl
        refine ⟨wanted_of (j := 20) (d := 44) rfl rfl eg, ?_⟩
        clear hs hd eg
        go_simp
        exact (law16_four _).mono (fun e w'' ⟨b, he, hI, hx⟩ => ⟨_, he, hx, b, rfl, hI⟩)
      · intro a' w' hx hs hd
        obtain ⟨y, rfl⟩ := hx.ew
        have e2 : a'.tmps[2]?.getD undef = .slice (some ⟨g, 0, none⟩) 3 3 := hs 2 rfl
        have eg : a'.tmps[44]?.getD undef = .bool true := hd 20 44 rfl rfl
        refine ⟨wanted_of (j := 20) (d := 44) rfl rfl eg, ?_⟩
        clear hs hd eg
        go_simp
        exact ⟨by (repeat (first | with_reducible exact Ext.refl _ _ | assumption | with_reducible refine Ext.upN ?_ | with_reducible refine Ext.alloc ?_ _ | with_reducible refine Ext.upA (by assumption) ?_ | with_reducible refine Ext.upW ?_ | with_reducible refine Ext.drew ?_ | with_reducible refine Ext.drewN ?_ _ | with_reducible refine Ext.upF ?_ | with_reducible refine Ext.upFF (by first | omega | simp) ?_ | with_reducible refine Ext.setCellsF _ _ _ (by first | omega | simp) ?_ | with_reducible refine Ext.setCellF _ _ _ (by first | omega | simp) ?_ | with_reducible refine Ext.upFN (by first | omega | simp) ?_ | with_reducible refine Ext.up1F (by first | omega | simp) ?_ | with_reducible refine Ext.up1N (by first | omega | simp) ?_ | with_reducible refine Ext.setCell ?_ (.inr (by first | omega | simp)) _ | refine Ext.alloc ?_ _ | refine Ext.setCellF _ _ _ (by first | omega | simp) ?_ | refine Ext.setCell ?_ (.inr (by first | omega | simp)) _)), rfl⟩
      · intro a' w' hx hs hd
        obtain ⟨y, rfl⟩ := hx.ew
        have e46 : a'.tmps[46]?.getD undef = .slice (some ⟨g, 0, none⟩) 3 3 := hd 22 46 rfl rfl
        have eg : a'.tmps[44]?.getD undef = .bool true := hd 20 44 rfl rfl
        refine ⟨wanted_of (j := 20) (d := 44) rfl rfl eg, ?_⟩
        clear hs hd eg
        go_simp
        exact ⟨by (repeat (first | with_reducible exact Ext.refl _ _ | assumption | with_reducible refine Ext.upN ?_ | with_reducible refine Ext.alloc ?_ _ | with_reducible refine Ext.upA (by assumption) ?_ | with_reducible refine Ext.upW ?_ | with_reducible refine Ext.drew ?_ | with_reducible refine Ext.drewN ?_ _ | with_reducible refine Ext.upF ?_ | with_reducible refine Ext.upFF (by first | omega | simp) ?_ | with_reducible refine Ext.setCellsF _ _ _ (by first | omega | simp) ?_ | with_reducible refine Ext.setCellF _ _ _ (by first | omega | simp) ?_ | with_reducible refine Ext.upFN (by first | omega | simp) ?_ | with_reducible refine Ext.up1F (by first | omega | simp) ?_ | with_reducible refine Ext.up1N (by first | omega | simp) ?_ | with_reducible refine Ext.setCell ?_ (.inr (by first | omega | simp)) _ | refine Ext.alloc ?_ _ | refine Ext.setCellF _ _ _ (by first | omega | simp) ?_ | refine Ext.setCell ?_ (.inr (by first | omega | simp)) _)), rfl⟩
      · intro a' w' hx hs hd
        obtain ⟨y, rfl⟩ := hx.ew
        have e47 : a'.tmps[47]?.getD undef = .pointer (some ⟨g, 5, none⟩) := hd 23 47 rfl rfl
        have eg : a'.tmps[44]?.getD undef = .bool true := hd 20 44 rfl rfl
        refine ⟨wanted_of (j := 20) (d := 44) rfl rfl eg, ?_⟩
        clear hs hd eg
        go_simp
        exact ⟨by (repeat (first | with_reducible exact Ext.refl _ _ | assumption | with_reducible refine Ext.upN ?_ | with_reducible refine Ext.alloc ?_ _ | with_reducible refine Ext.upA (by assumption) ?_ | with_reducible refine Ext.upW ?_ | with_reducible refine Ext.drew ?_ | with_reducible refine Ext.drewN ?_ _ | with_reducible refine Ext.upF ?_ | with_reducible refine Ext.upFF (by first | omega | simp) ?_ | with_reducible refine Ext.setCellsF _ _ _ (by first | omega | simp) ?_ | with_reducible refine Ext.setCellF _ _ _ (by first | omega | simp) ?_ | with_reducible refine Ext.upFN (by first | omega | simp) ?_ | with_reducible refine Ext.up1F (by first | omega | simp) ?_ | with_reducible refine Ext.up1N (by first | omega | simp) ?_ | with_reducible refine Ext.setCell ?_ (.inr (by first | omega | simp)) _ | refine Ext.alloc ?_ _ | refine Ext.setCellF _ _ _ (by first | omega | simp) ?_ | refine Ext.setCell ?_ (.inr (by first | omega | simp)) _)), rfl⟩
      · intro a' w' hx hs hd
        obtain ⟨y, rfl⟩ := hx.ew
        obtain ⟨b, e45, hI⟩ : ∃ b, a'.tmps[45]?.getD undef = .agg #[.int .i64 0, .slice (some ⟨b, 0, none⟩) 4 4] ∧ Ints y.on (some ⟨b, 0, none⟩) 4 [0, 1, 2, 3] := hd 21 45 rfl rfl
        have e48 : a'.tmps[48]?.getD undef = .agg #[.int .i64 1, .int .i64 1, .slice ca 1 cc, .int .i64 1, .string (txL 1 [ctL])] := hd 24 48 rfl rfl
        have eg : a'.tmps[44]?.getD undef = .bool true := hd 20 44 rfl rfl
        refine ⟨wanted_of (j := 20) (d := 44) rfl rfl eg, ?_⟩
        clear hs hd eg
        have HI := Go.Lib.hid hI; clear hI
        go_simp
        exact (change_Right 0 (some ⟨b, 0, none⟩) 4 [0, 1, 2, 3] 1 1 1 (txL 1 [ctL]) ca cc [ctL] (i64_lit (by decide) (by decide)) (i64_lit (by decide) (by decide)) (i64_lit (by decide) (by decide)) _ HI.out (HCc.out.extN (by (repeat (first | with_reducible exact Ext.refl _ _ | assumption | with_reducible refine Ext.upN ?_ | with_reducible refine Ext.alloc ?_ _ | with_reducible refine Ext.upA (by assumption) ?_ | with_reducible refine Ext.upW ?_ | with_reducible refine Ext.drew ?_ | with_reducible refine Ext.drewN ?_ _ | with_reducible refine Ext.upF ?_ | with_reducible refine Ext.upFF (by first | omega | simp) ?_ | with_reducible refine Ext.setCellsF _ _ _ (by first | omega | simp) ?_ | with_reducible refine Ext.setCellF _ _ _ (by first | omega | simp) ?_ | with_reducible refine Ext.upFN (by first | omega | simp) ?_ | with_reducible refine Ext.up1F (by first | omega | simp) ?_ | with_reducible refine Ext.up1N (by first | omega | simp) ?_ | with_reducible refine Ext.setCell ?_ (.inr (by first | omega | simp)) _ | refine Ext.alloc ?_ _ | refine Ext.setCellF _ _ _ (by first | omega | simp) ?_ | refine Ext.setCell ?_ (.inr (by first | omega | simp)) _))))).mono (fun e w'' ⟨he, hx⟩ => ⟨_, he, hx, congrArg (Value.int .i64) lives_right⟩)
      · intro a' w' hx hs hd
        obtain ⟨y, rfl⟩ := hx.ew
        have e49 : a'.tmps[49]?.getD undef = .int .i64 0 := hd 25 49 rfl rfl
        have eg : a'.tmps[44]?.getD undef = .bool true := hd 20 44 rfl rfl
        refine ⟨wanted_of (j := 20) (d := 44) rfl rfl eg, ?_⟩
        clear hs hd eg
        go_simp
        exact ⟨by (repeat (first | with_reducible exact Ext.refl _ _ | assumption | with_reducible refine Ext.upN ?_ | with_reducible refine Ext.alloc ?_ _ | with_reducible refine Ext.upA (by assumption) ?_ | with_reducible refine Ext.upW ?_ | with_reducible refine Ext.drew ?_ | with_reducible refine Ext.drewN ?_ _ | with_reducible refine Ext.upF ?_ | with_reducible refine Ext.upFF (by first | omega | simp) ?_ | with_reducible refine Ext.setCellsF _ _ _ (by first | omega | simp) ?_ | with_reducible refine Ext.setCellF _ _ _ (by first | omega | simp) ?_ | with_reducible refine Ext.upFN (by first | omega | simp) ?_ | with_reducible refine Ext.up1F (by first | omega | simp) ?_ | with_reducible refine Ext.up1N (by first | omega | simp) ?_ | with_reducible refine Ext.setCell ?_ (.inr (by first | omega | simp)) _ | refine Ext.alloc ?_ _ | refine Ext.setCellF _ _ _ (by first | omega | simp) ?_ | refine Ext.setCell ?_ (.inr (by first | omega | simp)) _)), rfl⟩
      · intro a' w' hx hs hd
        obtain ⟨y, rfl⟩ := hx.ew
        have e44 : a'.tmps[44]?.getD undef = .bool true := hd 20 44 rfl rfl
        have e50 : a'.tmps[50]?.getD undef = .bool true := hd 26 50 rfl rfl
        clear hs hd
        refine ⟨rfl, ?_⟩
        go_simp
        exact ⟨by (repeat (first | with_reducible exact Ext.refl _ _ | assumption | with_reducible refine Ext.upN ?_ | with_reducible refine Ext.alloc ?_ _ | with_reducible refine Ext.upA (by assumption) ?_ | with_reducible refine Ext.upW ?_ | with_reducible refine Ext.drew ?_ | with_reducible refine Ext.drewN ?_ _ | with_reducible refine Ext.upF ?_ | with_reducible refine Ext.upFF (by first | omega | simp) ?_ | with_reducible refine Ext.setCellsF _ _ _ (by first | omega | simp) ?_ | with_reducible refine Ext.setCellF _ _ _ (by first | omega | simp) ?_ | with_reducible refine Ext.upFN (by first | omega | simp) ?_ | with_reducible refine Ext.up1F (by first | omega | simp) ?_ | with_reducible refine Ext.up1N (by first | omega | simp) ?_ | with_reducible refine Ext.setCell ?_ (.inr (by first | omega | simp)) _ | refine Ext.alloc ?_ _ | refine Ext.setCellF _ _ _ (by first | omega | simp) ?_ | refine Ext.setCell ?_ (.inr (by first | omega | simp)) _)), rfl⟩
      · intro a' w' hx hs hd
        obtain ⟨y, rfl⟩ := hx.ew
        have e51 : a'.tmps[51]?.getD undef = .bool true := hd 27 51 rfl rfl
        clear hs hd
        refine ⟨rfl, ?_⟩
        go_simp
        exact ⟨by (repeat (first | with_reducible exact Ext.refl _ _ | assumption | with_reducible refine Ext.upN ?_ | with_reducible refine Ext.alloc ?_ _ | with_reducible refine Ext.upA (by assumption) ?_ | with_reducible refine Ext.upW ?_ | with_reducible refine Ext.drew ?_ | with_reducible refine Ext.drewN ?_ _ | with_reducible refine Ext.upF ?_ | with_reducible refine Ext.upFF (by first | omega | simp) ?_ | with_reducible refine Ext.setCellsF _ _ _ (by first | omega | simp) ?_ | with_reducible refine Ext.setCellF _ _ _ (by first | omega | simp) ?_ | with_reducible refine Ext.upFN (by first | omega | simp) ?_ | with_reducible refine Ext.up1F (by first | omega | simp) ?_ | with_reducible refine Ext.up1N (by first | omega | simp) ?_ | with_reducible refine Ext.setCell ?_ (.inr (by first | omega | simp)) _ | refine Ext.alloc ?_ _ | refine Ext.setCellF _ _ _ (by first | omega | simp) ?_ | refine Ext.setCell ?_ (.inr (by first | omega | simp)) _)), rfl⟩
      · intro a' w' hx hs hd
        obtain ⟨y, rfl⟩ := hx.ew
        have eg : a'.tmps[52]?.getD undef = .bool true := hd 28 52 rfl rfl
        refine ⟨wanted_of (j := 28) (d := 52) rfl rfl eg, ?_⟩
        clear hs hd eg
        go_simp
        exact (law16_four _).mono (fun e w'' ⟨b, he, hI, hx⟩ => ⟨_, he, hx, b, rfl, hI⟩)
      · intro a' w' hx hs hd
        obtain ⟨y, rfl⟩ := hx.ew
        have eg : a'.tmps[52]?.getD undef = .bool true := hd 28 52 rfl rfl
        refine ⟨wanted_of (j := 28) (d := 52) rfl rfl eg, ?_⟩
        clear hs hd eg
        go_simp
        exact ⟨by (repeat (first | with_reducible exact Ext.refl _ _ | assumption | with_reducible refine Ext.upN ?_ | with_reducible refine Ext.alloc ?_ _ | with_reducible refine Ext.upA (by assumption) ?_ | with_reducible refine Ext.upW ?_ | with_reducible refine Ext.drew ?_ | with_reducible refine Ext.drewN ?_ _ | with_reducible refine Ext.upF ?_ | with_reducible refine Ext.upFF (by first | omega | simp) ?_ | with_reducible refine Ext.setCellsF _ _ _ (by first | omega | simp) ?_ | with_reducible refine Ext.setCellF _ _ _ (by first | omega | simp) ?_ | with_reducible refine Ext.upFN (by first | omega | simp) ?_ | with_reducible refine Ext.up1F (by first | omega | simp) ?_ | with_reducible refine Ext.up1N (by first | omega | simp) ?_ | with_reducible refine Ext.setCell ?_ (.inr (by first | omega | simp)) _ | refine Ext.alloc ?_ _ | refine Ext.setCellF _ _ _ (by first | omega | simp) ?_ | refine Ext.setCell ?_ (.inr (by first | omega | simp)) _)), rfl⟩
      · intro a' w' hx hs hd
        obtain ⟨y, rfl⟩ := hx.ew
        obtain ⟨b, e53, hI⟩ : ∃ b, a'.tmps[53]?.getD undef = .agg #[.int .i64 0, .slice (some ⟨b, 0, none⟩) 4 4] ∧ Ints y.on (some ⟨b, 0, none⟩) 4 [0, 1, 2, 3] := hd 29 53 rfl rfl
        have e54 : a'.tmps[54]?.getD undef = .agg #[.int .i64 1, .int .i64 1, .slice none 0 0, .int .i64 0, .string ByteArray.empty] := hd 30 54 rfl rfl
        have eg : a'.tmps[52]?.getD undef = .bool true := hd 28 52 rfl rfl
        refine ⟨wanted_of (j := 28) (d := 52) rfl rfl eg, ?_⟩
        clear hs hd eg
        have HI := Go.Lib.hid hI; clear hI
        go_simp
        exact (change_Right 0 (some ⟨b, 0, none⟩) 4 [0, 1, 2, 3] 1 1 0 ByteArray.empty none 0 [] (i64_lit (by decide) (by decide)) (i64_lit (by decide) (by decide)) (i64_lit (by decide) (by decide)) _ HI.out (certs_nil _)).mono (fun e w'' ⟨he, hx⟩ => ⟨_, he, hx, congrArg (Value.int .i64) lives_wrong⟩)
      · intro a' w' hx hs hd
        obtain ⟨y, rfl⟩ := hx.ew
        have e55 : a'.tmps[55]?.getD undef = .int .i64 16 := hd 31 55 rfl rfl
        have eg : a'.tmps[52]?.getD undef = .bool true := hd 28 52 rfl rfl
        refine ⟨wanted_of (j := 28) (d := 52) rfl rfl eg, ?_⟩
        clear hs hd eg
        go_simp
        exact ⟨by (repeat (first | with_reducible exact Ext.refl _ _ | assumption | with_reducible refine Ext.upN ?_ | with_reducible refine Ext.alloc ?_ _ | with_reducible refine Ext.upA (by assumption) ?_ | with_reducible refine Ext.upW ?_ | with_reducible refine Ext.drew ?_ | with_reducible refine Ext.drewN ?_ _ | with_reducible refine Ext.upF ?_ | with_reducible refine Ext.upFF (by first | omega | simp) ?_ | with_reducible refine Ext.setCellsF _ _ _ (by first | omega | simp) ?_ | with_reducible refine Ext.setCellF _ _ _ (by first | omega | simp) ?_ | with_reducible refine Ext.upFN (by first | omega | simp) ?_ | with_reducible refine Ext.up1F (by first | omega | simp) ?_ | with_reducible refine Ext.up1N (by first | omega | simp) ?_ | with_reducible refine Ext.setCell ?_ (.inr (by first | omega | simp)) _ | refine Ext.alloc ?_ _ | refine Ext.setCellF _ _ _ (by first | omega | simp) ?_ | refine Ext.setCell ?_ (.inr (by first | omega | simp)) _)), rfl⟩
      · intro a' w' hx hs hd
        obtain ⟨y, rfl⟩ := hx.ew
        have e52 : a'.tmps[52]?.getD undef = .bool true := hd 28 52 rfl rfl
        have e56 : a'.tmps[56]?.getD undef = .bool true := hd 32 56 rfl rfl
        clear hs hd
        refine ⟨rfl, ?_⟩
        go_simp
        exact ⟨by (repeat (first | with_reducible exact Ext.refl _ _ | assumption | with_reducible refine Ext.upN ?_ | with_reducible refine Ext.alloc ?_ _ | with_reducible refine Ext.upA (by assumption) ?_ | with_reducible refine Ext.upW ?_ | with_reducible refine Ext.drew ?_ | with_reducible refine Ext.drewN ?_ _ | with_reducible refine Ext.upF ?_ | with_reducible refine Ext.upFF (by first | omega | simp) ?_ | with_reducible refine Ext.setCellsF _ _ _ (by first | omega | simp) ?_ | with_reducible refine Ext.setCellF _ _ _ (by first | omega | simp) ?_ | with_reducible refine Ext.upFN (by first | omega | simp) ?_ | with_reducible refine Ext.up1F (by first | omega | simp) ?_ | with_reducible refine Ext.up1N (by first | omega | simp) ?_ | with_reducible refine Ext.setCell ?_ (.inr (by first | omega | simp)) _ | refine Ext.alloc ?_ _ | refine Ext.setCellF _ _ _ (by first | omega | simp) ?_ | refine Ext.setCell ?_ (.inr (by first | omega | simp)) _)), rfl⟩
      · intro a' w' hx hs hd
        obtain ⟨y, rfl⟩ := hx.ew
        have e57 : a'.tmps[57]?.getD undef = .bool true := hd 33 57 rfl rfl
        clear hs hd
        refine ⟨rfl, ?_⟩
        go_simp
        exact ⟨by (repeat (first | with_reducible exact Ext.refl _ _ | assumption | with_reducible refine Ext.upN ?_ | with_reducible refine Ext.alloc ?_ _ | with_reducible refine Ext.upA (by assumption) ?_ | with_reducible refine Ext.upW ?_ | with_reducible refine Ext.drew ?_ | with_reducible refine Ext.drewN ?_ _ | with_reducible refine Ext.upF ?_ | with_reducible refine Ext.upFF (by first | omega | simp) ?_ | with_reducible refine Ext.setCellsF _ _ _ (by first | omega | simp) ?_ | with_reducible refine Ext.setCellF _ _ _ (by first | omega | simp) ?_ | with_reducible refine Ext.upFN (by first | omega | simp) ?_ | with_reducible refine Ext.up1F (by first | omega | simp) ?_ | with_reducible refine Ext.up1N (by first | omega | simp) ?_ | with_reducible refine Ext.setCell ?_ (.inr (by first | omega | simp)) _ | refine Ext.alloc ?_ _ | refine Ext.setCellF _ _ _ (by first | omega | simp) ?_ | refine Ext.setCell ?_ (.inr (by first | omega | simp)) _)), rfl⟩
    case q =>
      intro vs w' hx hR
      obtain ⟨y4, rfl⟩ := hx.ew
      have v34 : vs 34 = .bool true := hR 34 (by decide)
      clear hR
      simp only [putAll, List.take_succ_cons, List.take_zero, List.drop_succ_cons, List.drop_zero, Act.put, List.setIfInBounds_toArray, List.set_cons_zero, List.set_cons_succ, Nat.reduceAdd, Nat.zero_add]
      simp only [v34]
      go_wp2
      go_ret
      exact ⟨rfl, by (repeat (first | with_reducible exact Ext.refl _ _ | assumption | with_reducible refine Ext.upN ?_ | with_reducible refine Ext.alloc ?_ _ | with_reducible refine Ext.upA (by assumption) ?_ | with_reducible refine Ext.upW ?_ | with_reducible refine Ext.drew ?_ | with_reducible refine Ext.drewN ?_ _ | with_reducible refine Ext.upF ?_ | with_reducible refine Ext.upFF (by first | omega | simp) ?_ | with_reducible refine Ext.setCellsF _ _ _ (by first | omega | simp) ?_ | with_reducible refine Ext.setCellF _ _ _ (by first | omega | simp) ?_ | with_reducible refine Ext.upFN (by first | omega | simp) ?_ | with_reducible refine Ext.up1F (by first | omega | simp) ?_ | with_reducible refine Ext.up1N (by first | omega | simp) ?_ | with_reducible refine Ext.setCell ?_ (.inr (by first | omega | simp)) _ | refine Ext.alloc ?_ _ | refine Ext.setCellF _ _ _ (by first | omega | simp) ?_ | refine Ext.setCell ?_ (.inr (by first | omega | simp)) _))⟩
end Go.Proofs.Ytakbkpklfihfiaa

/- Arguments of layer 16 read as plain data: requests, signatures, certificates, changes. -/
namespace Go.Proofs.Ytakbkpklfihfiaa
open Go.RowKit Go.ChangeShapes Go.WideShapes
set_option linter.unusedSimpArgs false
set_option linter.unusedVariables false

section
variable {H : Type} {enc : TypeId × Value → H} {W : World} {base n : Nat} {spare : Nat → Bool} {held : Bool}
theorem trod_float {P : Program} {t : TypeId} {k : FloatKind} {cs : List Value} {x : DataW H × List MemPlace} (ht : P.underlying t = some (.float k)) (h : DataW.trod enc P W base spare held n t cs = some x) : ∃ b, cs = [.float k b] ∧ (Lit.float k b).wf = true := by
  cases n with
  | zero => simp [DataW.trod] at h
  | succ n =>
    unfold DataW.trod at h
    rw [ht] at h
    split at h <;> simp_all
theorem read_float {cs : List Value} {x : DataW H × List MemPlace} (h : DataW.trod enc Try.prog W base spare held n 45 cs = some x) : ∃ k : Nat, cs = [.float .f64 k] ∧ k < 18446744073709551616 := by
  obtain ⟨b, e, w⟩ := trod_float Try.underlying45 h
  refine ⟨b, e, ?_⟩
  simpa [Lit.wf] using w
theorem read_str {cs : List Value} {x : DataW H × List MemPlace} (h : DataW.trod enc Try.prog W base spare held n 9 cs = some x) : ∃ s : ByteArray, cs = [.string s] ∧ s.size ≤ 9223372036854775807 := by
  obtain ⟨s, e, _, hs⟩ := DataW.trod_string Try.underlying9 h
  exact ⟨s, e, by unfold maxLen at hs; omega⟩
theorem c_float : (Try.prog).cellsOf 45 = 1 := by kernel_rfl
theorem c_sig : (Try.prog).cellsOf 24 = 2 := by kernel_rfl
theorem c_sigs : (Try.prog).cellsOf 50 = 1 := by kernel_rfl
theorem c_op : (Try.prog).cellsOf 47 = 4 := by kernel_rfl
theorem c_req : (Try.prog).cellsOf 49 = 6 := by kernel_rfl
theorem c_cert : (Try.prog).cellsOf 52 = 9 := by kernel_rfl
theorem c_certs : (Try.prog).cellsOf 22 = 1 := by kernel_rfl
theorem c_change : (Try.prog).cellsOf 26 = 5 := by kernel_rfl
theorem read_sig {cs : List Value} {x : DataW H × List MemPlace} (h : DataW.trod enc Try.prog W base spare held n 24 cs = some x) : ∃ s : Sg, cs = [.int .i64 s.by_, .string s.text] ∧ I64 s.by_ ∧ s.text.size ≤ 9223372036854775807 := by
  obtain ⟨hl, hf⟩ := read_struct Try.underlying24 h
  have hl : cs.length = 2 := hl.trans c_sig
  match cs, hl with
  | [v0, v1], _ =>
    obtain ⟨_, _, h0⟩ := hf 0 _ 3 0 1 rfl rfl rfl c_int
    obtain ⟨_, _, h1⟩ := hf 1 _ 9 1 1 rfl rfl rfl c_string
    obtain ⟨k, e0, hk⟩ := read_int h0
    obtain ⟨s, e1, hs⟩ := read_str h1
    simp at e0 e1
    subst e0; subst e1
    exact ⟨⟨k, s⟩, rfl, hk, hs⟩
theorem read_req {cs : List Value} {x : DataW H × List MemPlace} (h : DataW.trod enc Try.prog W base spare held n 49 cs = some x) : ∃ r : Req, cs = r.cells ∧ ReqOk r := by
  obtain ⟨hl, hf⟩ := read_struct Try.underlying49 h
  have hl : cs.length = 6 := hl.trans c_req
  match cs, hl with
  | [v0, v1, v2, v3, v4, v5], _ =>
    obtain ⟨_, _, h0⟩ := hf 0 _ 3 0 1 rfl rfl rfl c_int
    obtain ⟨_, _, h1⟩ := hf 1 _ 3 1 1 rfl rfl rfl c_int
    obtain ⟨_, _, h2⟩ := hf 2 _ 47 2 4 rfl rfl rfl c_op
    obtain ⟨k0, e0, w0⟩ := read_int h0
    obtain ⟨k1, e1, w1⟩ := read_int h1
    obtain ⟨_, gf⟩ := read_struct Try.underlying47 h2
    obtain ⟨_, _, g0⟩ := gf 0 _ 3 0 1 rfl rfl rfl c_int
    obtain ⟨_, _, g1⟩ := gf 1 _ 9 1 1 rfl rfl rfl c_string
    obtain ⟨_, _, g2⟩ := gf 2 _ 45 2 1 rfl rfl rfl c_float
    obtain ⟨_, _, g3⟩ := gf 3 _ 3 3 1 rfl rfl rfl c_int
    obtain ⟨k2, e2, w2⟩ := read_int g0
    obtain ⟨k3, e3, w3⟩ := read_str g1
    obtain ⟨k4, e4, w4⟩ := read_float g2
    obtain ⟨k5, e5, w5⟩ := read_int g3
    simp at e0 e1 e2 e3 e4 e5
    subst e0; subst e1; subst e2; subst e3; subst e4; subst e5
    exact ⟨⟨k0, k1, ⟨k2, k3, k4, k5⟩⟩, rfl, ⟨w0, w1, w2, w5, w4, w3⟩⟩
theorem read_sigs {cs : List Value} {x : DataW H × List MemPlace} (h : DataW.trod enc Try.prog W base spare held n 50 cs = some x) : ∃ a cap l, cs = [.slice a (l : List Sg).length cap] ∧ Sigs W a cap l := by
  obtain ⟨a, len, cap, rfl, hl, hc, hm, hn, F, hF⟩ := read_slice (α := Sg) (k := 2) (fun q cs => cs = [.int .i64 q.by_, .string q.text] ∧ I64 q.by_ ∧ q.text.size ≤ 9223372036854775807) Try.underlying50 c_sig (fun m cs y hy => read_sig hy) h
  have hlen : ((List.range len).map F).length = len := by simp
  refine ⟨a, cap, (List.range len).map F, by rw [hlen], ⟨by rw [hlen]; exact hc, by unfold maxLen at hm; omega, fun j hj => ?_⟩⟩
  have hj' : j < len := by rw [hlen] at hj; exact hj
  obtain ⟨cs', ⟨rfl, w1, w2⟩, _, hcell⟩ := hF j hj'
  obtain ⟨b, o, rfl, hcc⟩ := hcell (by omega)
  have e : sgAt ((List.range len).map F) j = F j := by rw [sgAt_get hj]; simp
  rw [e]
  have c0 := hcc 0 (by simp)
  have c1 := hcc 1 (by simp)
  exact ⟨b, o, rfl, lt_of_cell c0, c0, c1, w1, w2⟩
theorem read_cert {cs : List Value} {x : DataW H × List MemPlace} (h : DataW.trod enc Try.prog W base spare held n 52 cs = some x) : ∃ q : Ct × Option Addr × Nat, cs = q.1.cells q.2.1 q.2.2 ∧ Sigs W q.2.1 q.2.2 q.1.sigs ∧ ReqOk q.1.req ∧ I64 q.1.view ∧ I64 q.1.slot := by
  obtain ⟨hl, hf⟩ := read_struct Try.underlying52 h
  have hl : cs.length = 9 := hl.trans c_cert
  match cs, hl with
  | [v0, v1, v2, v3, v4, v5, v6, v7, v8], _ =>
    obtain ⟨_, _, h0⟩ := hf 0 _ 3 0 1 rfl rfl rfl c_int
    obtain ⟨_, _, h1⟩ := hf 1 _ 3 1 1 rfl rfl rfl c_int
    obtain ⟨_, _, h2⟩ := hf 2 _ 49 2 6 rfl rfl rfl c_req
    obtain ⟨_, _, h3⟩ := hf 3 _ 50 8 1 rfl rfl rfl c_sigs
    obtain ⟨k0, e0, w0⟩ := read_int h0
    obtain ⟨k1, e1, w1⟩ := read_int h1
    obtain ⟨r, e2, w2⟩ := read_req h2
    obtain ⟨a, cap, l, e3, w3⟩ := read_sigs h3
    obtain ⟨rc, rs, ⟨rk, rkey, rx, rid⟩⟩ := r
    simp [Req.cells] at e0 e1 e2 e3
    obtain ⟨rfl, rfl, rfl, rfl, rfl, rfl⟩ := e2
    subst e0; subst e1; subst e3
    exact ⟨(⟨k0, k1, ⟨rc, rs, ⟨rk, rkey, rx, rid⟩⟩, l⟩, a, cap), rfl, w3, w2, w0, w1⟩
theorem read_certs {cs : List Value} {x : DataW H × List MemPlace} (h : DataW.trod enc Try.prog W base spare held n 22 cs = some x) : ∃ a cap l, cs = [.slice a (l : List Ct).length cap] ∧ Certs W a cap l := by
  obtain ⟨a, len, cap, rfl, hl, hc, hm, hn, F, hF⟩ := read_slice (α := Ct × Option Addr × Nat) (k := 9) (fun q cs => cs = q.1.cells q.2.1 q.2.2 ∧ Sigs W q.2.1 q.2.2 q.1.sigs ∧ ReqOk q.1.req ∧ I64 q.1.view ∧ I64 q.1.slot) Try.underlying22 c_cert (fun m cs y hy => read_cert hy) h
  have hlen : ((List.range len).map fun i => (F i).1).length = len := by simp
  refine ⟨a, cap, (List.range len).map fun i => (F i).1, by rw [hlen], ⟨by rw [hlen]; exact hc, by unfold maxLen at hm; omega, fun j hj => ?_⟩⟩
  have hj' : j < len := by rw [hlen] at hj; exact hj
  obtain ⟨cs', ⟨rfl, w1, w2, w3, w4⟩, hlc, hcell⟩ := hF j hj'
  obtain ⟨b, o, rfl, hcc⟩ := hcell (by omega)
  have e : ctAt ((List.range len).map fun i => (F i).1) j = (F j).1 := by rw [ctAt_get hj]; simp
  rw [e]
  refine ⟨b, o, (F j).2.1, (F j).2.2, rfl, lt_of_cell (hcc 0 (by rw [hlc]; omega)), fun i v hv => ?_, w1, w2, w3, w4⟩
  obtain ⟨hi, rfl⟩ := List.getElem?_eq_some_iff.1 hv
  exact hcc i hi
theorem read_change {cs : List Value} {x : DataW H × List MemPlace} (h : DataW.trod enc Try.prog W base spare held n 26 cs = some x) : ∃ q : Ch × Option Addr × Nat, cs = q.1.cells q.2.1 q.2.2 ∧ Certs W q.2.1 q.2.2 q.1.certs ∧ I64 q.1.from_ ∧ I64 q.1.view ∧ I64 q.1.by_ ∧ q.1.text.size ≤ 9223372036854775807 := by
  obtain ⟨hl, hf⟩ := read_struct Try.underlying26 h
  have hl : cs.length = 5 := hl.trans c_change
  match cs, hl with
  | [v0, v1, v2, v3, v4], _ =>
    obtain ⟨_, _, h0⟩ := hf 0 _ 3 0 1 rfl rfl rfl c_int
    obtain ⟨_, _, h1⟩ := hf 1 _ 3 1 1 rfl rfl rfl c_int
    obtain ⟨_, _, h2⟩ := hf 2 _ 22 2 1 rfl rfl rfl c_certs
    obtain ⟨_, _, h3⟩ := hf 3 _ 24 3 2 rfl rfl rfl c_sig
    obtain ⟨k0, e0, w0⟩ := read_int h0
    obtain ⟨k1, e1, w1⟩ := read_int h1
    obtain ⟨a, cap, l, e2, w2⟩ := read_certs h2
    obtain ⟨s, e3, w3, w3'⟩ := read_sig h3
    obtain ⟨sb, st⟩ := s
    simp at e0 e1 e2 e3
    obtain ⟨rfl, rfl⟩ := e3
    subst e0; subst e1; subst e2
    exact ⟨(⟨k0, k1, l, sb, st⟩, a, cap), rfl, w2, w0, w1, w3, w3'⟩
theorem read_changes {cs : List Value} {x : DataW H × List MemPlace} (h : DataW.trod enc Try.prog W base spare held n 37 cs = some x) : ∃ a cap l, cs = [.slice a (l : List Ch).length cap] ∧ Chs W a cap l := by
  obtain ⟨a, len, cap, rfl, hl, hc, hm, hn, F, hF⟩ := read_slice (α := Ch × Option Addr × Nat) (k := 5) (fun q cs => cs = q.1.cells q.2.1 q.2.2 ∧ Certs W q.2.1 q.2.2 q.1.certs ∧ I64 q.1.from_ ∧ I64 q.1.view ∧ I64 q.1.by_ ∧ q.1.text.size ≤ 9223372036854775807) Try.underlying37 c_change (fun m cs y hy => read_change hy) h
  have hlen : ((List.range len).map fun i => (F i).1).length = len := by simp
  refine ⟨a, cap, (List.range len).map fun i => (F i).1, by rw [hlen], ⟨by rw [hlen]; exact hc, by unfold maxLen at hm; omega, fun j hj => ?_⟩⟩
  have hj' : j < len := by rw [hlen] at hj; exact hj
  obtain ⟨cs', ⟨rfl, w1, w2, w3, w4, w5⟩, hlc, hcell⟩ := hF j hj'
  obtain ⟨b, o, rfl, hcc⟩ := hcell (by omega)
  have e : chAt ((List.range len).map fun i => (F i).1) j = (F j).1 := by rw [chAt_get hj]; simp
  rw [e]
  refine ⟨b, o, (F j).2.1, (F j).2.2, rfl, lt_of_cell (hcc 0 (by rw [hlc]; omega)), fun i v hv => ?_, w1, w2, w3, w4, w5⟩
  obtain ⟨hi, rfl⟩ := List.getElem?_eq_some_iff.1 hv
  exact hcc i hi
set_option maxRecDepth 100000 in
theorem arg_change {v : Value} {d : DataW H} {p : List MemPlace} {b0 : Nat} {r : Reach} (ok : Value.okWide Try.prog W r b0 26 v) (h : DataW.Trod enc Try.prog W base spare held 26 v d p) :
    ∃ (c : Ch) (a : Option Addr) (cap : Nat), v = .agg (c.cells a cap).toArray ∧ Certs W a cap c.certs ∧ I64 c.from_ ∧ I64 c.view := by
  obtain ⟨cs, rfl, n, x, hx⟩ := arg_struct Try.underlying26 ok h
  obtain ⟨q, rfl, w1, w2, w3, _⟩ := read_change hx
  exact ⟨q.1, q.2.1, q.2.2, rfl, w1, w2, w3⟩
set_option maxRecDepth 100000 in
theorem arg_changes {v : Value} {d : DataW H} {p : List MemPlace} {b0 : Nat} {r : Reach} (ok : Value.okWide Try.prog W r b0 37 v) (h : DataW.Trod enc Try.prog W base spare held 37 v d p) :
    ∃ (a : Option Addr) (cap : Nat) (l : List Ch), v = .slice a l.length cap ∧ Chs W a cap l := by
  obtain ⟨n, x, hx⟩ := arg_slice Try.underlying37 ok h
  obtain ⟨a, cap, l, e, hc⟩ := read_changes hx
  simp at e
  exact ⟨a, cap, l, e, hc⟩
set_option maxRecDepth 100000 in
theorem arg_int {v : Value} {d : DataW H} {p : List MemPlace} {b0 : Nat} {r : Reach} (ok : Value.okWide Try.prog W r b0 3 v) (h : DataW.Trod enc Try.prog W base spare held 3 v d p) : ∃ k : Int, v = .int .i64 k ∧ I64 k := by
  obtain ⟨k, rfl⟩ := okWide_int Try.underlying3 ok
  obtain ⟨m, hm⟩ := h
  have hm' : DataW.trod enc Try.prog W base spare held m 3 [.int .i64 k] = some (d, p) := hm
  obtain ⟨k', e, hk⟩ := read_int hm'
  simp at e
  subst e
  exact ⟨_, rfl, hk⟩
end
end Go.Proofs.Ytakbkpklfihfiaa

/- Contracts of the law of layer 11: a request of an Ask. -/
namespace Go.Proofs.Ytakbkpklfihfiaa
open Go.RowKit Go.Lib F64
set_option linter.unusedSimpArgs false
set_option linter.unusedVariables false
attribute [local go_sem] run_store_float
attribute [local go_sem low] EW.cellN EW.frozN alloc_cell_or alloc_froz_or EW.cellF EW.frozF EW.cell1 EW.froz1
attribute [local go_sem] relAt relUpon
theorem info_req6 : (Try.prog.info? 49).map (·.size) = some 6 := by kernel_rfl
set_option maxHeartbeats 1000000 in
set_option maxRecDepth 100000 in
theorem law11_Request (c s k : Int) (key : ByteArray) (b id : Int) (w : World) :
    Calls Try.prog 23 #[.agg #[.int .i64 c, .int .i64 s, .int .i64 k, .string key, .int .u64 b, .int .i64 id]] w fun e w' =>
    e = .returned (.agg #[.int .i64 c, .int .i64 s, .int .i64 k, .string key, .float .f64 b.toNat, .int .i64 id]) ∧ Ext Non w w' := by
  go_enter Try.func23, Try.ntmps23
  go_upto_region 1 with fail
  apply wp_region_rel_tail 15 (relR [Mo.is _, Mo.is _, Mo.is _, Mo.is _, Mo.is _, Mo.is _, Mo.is _, Mo.is _, Mo.is _, Mo.is _, Mo.is _, Mo.is _, Mo.is _, Mo.is _, Mo.is _]) (by kernel_rfl) (by kernel_rfl) (by kernel_rfl) (by kernel_rfl) (by kernel_rfl) (by decide) (by kernel_rfl) (relR_mono _) (StepD.all ?st1) ?q1
  case st1 =>
    refine ⟨?_, ?_, ?_, ?_, ?_, ?_, ?_, ?_, ?_, ?_, ?_, ?_, ?_, ?_, ?_, trivial⟩
    · intro a' w' hx hs hd
      obtain ⟨y, rfl⟩ := hx.ew
      have e1 : a'.tmps[1]?.getD undef = _ := hs 1 rfl
      simp only [List.getElem?_toArray, List.getElem?_cons_succ, List.getElem?_cons_zero, Option.getD_some, Array.getElem?_eq_some_iff] at e1
      refine .inl ⟨rfl, ?_⟩
      clear hs hd hx
      go_simp
      exact ⟨Ext.refl _ _, rfl⟩
    · intro a' w' hx hs hd
      obtain ⟨y, rfl⟩ := hx.ew
      have e3 : a'.tmps[3]?.getD undef = _ := hd 0 3 rfl rfl
      refine .inl ⟨rfl, ?_⟩
      clear hs hd hx
      go_simp
      exact ⟨Ext.refl _ _, rfl⟩
    · intro a' w' hx hs hd
      obtain ⟨y, rfl⟩ := hx.ew
      have e1 : a'.tmps[1]?.getD undef = _ := hs 1 rfl
      simp only [List.getElem?_toArray, List.getElem?_cons_succ, List.getElem?_cons_zero, Option.getD_some, Array.getElem?_eq_some_iff] at e1
      refine .inl ⟨rfl, ?_⟩
      clear hs hd hx
      go_simp
      exact ⟨Ext.refl _ _, rfl⟩
    · intro a' w' hx hs hd
      obtain ⟨y, rfl⟩ := hx.ew
      have e5 : a'.tmps[5]?.getD undef = _ := hd 2 5 rfl rfl
      refine .inl ⟨rfl, ?_⟩
      clear hs hd hx
      go_simp
      exact ⟨Ext.refl _ _, rfl⟩
    · intro a' w' hx hs hd
      obtain ⟨y, rfl⟩ := hx.ew
      have e1 : a'.tmps[1]?.getD undef = _ := hs 1 rfl
      simp only [List.getElem?_toArray, List.getElem?_cons_succ, List.getElem?_cons_zero, Option.getD_some, Array.getElem?_eq_some_iff] at e1
      refine .inl ⟨rfl, ?_⟩
      clear hs hd hx
      go_simp
      exact ⟨Ext.refl _ _, rfl⟩
    · intro a' w' hx hs hd
      obtain ⟨y, rfl⟩ := hx.ew
      have e7 : a'.tmps[7]?.getD undef = _ := hd 4 7 rfl rfl
      refine .inl ⟨rfl, ?_⟩
      clear hs hd hx
      go_simp
      exact ⟨Ext.refl _ _, rfl⟩
    · intro a' w' hx hs hd
      obtain ⟨y, rfl⟩ := hx.ew
      have e1 : a'.tmps[1]?.getD undef = _ := hs 1 rfl
      simp only [List.getElem?_toArray, List.getElem?_cons_succ, List.getElem?_cons_zero, Option.getD_some, Array.getElem?_eq_some_iff] at e1
      refine .inl ⟨rfl, ?_⟩
      clear hs hd hx
      go_simp
      exact ⟨Ext.refl _ _, rfl⟩
    · intro a' w' hx hs hd
      obtain ⟨y, rfl⟩ := hx.ew
      have e9 : a'.tmps[9]?.getD undef = _ := hd 6 9 rfl rfl
      refine .inl ⟨rfl, ?_⟩
      clear hs hd hx
      go_simp
      exact ⟨Ext.refl _ _, rfl⟩
    · intro a' w' hx hs hd
      obtain ⟨y, rfl⟩ := hx.ew
      have e1 : a'.tmps[1]?.getD undef = _ := hs 1 rfl
      simp only [List.getElem?_toArray, List.getElem?_cons_succ, List.getElem?_cons_zero, Option.getD_some, Array.getElem?_eq_some_iff] at e1
      refine .inl ⟨rfl, ?_⟩
      clear hs hd hx
      go_simp
      exact ⟨Ext.refl _ _, rfl⟩
    · intro a' w' hx hs hd
      obtain ⟨y, rfl⟩ := hx.ew
      have e11 : a'.tmps[11]?.getD undef = _ := hd 8 11 rfl rfl
      refine .inl ⟨rfl, ?_⟩
      clear hs hd hx
      go_simp
      exact ⟨Ext.refl _ _, rfl⟩
    · intro a' w' hx hs hd
      obtain ⟨y, rfl⟩ := hx.ew
      have e12 : a'.tmps[12]?.getD undef = _ := hd 9 12 rfl rfl
      refine .inl ⟨rfl, ?_⟩
      clear hs hd hx
      go_simp
      exact ⟨Ext.refl _ _, rfl⟩
    · intro a' w' hx hs hd
      obtain ⟨y, rfl⟩ := hx.ew
      have e1 : a'.tmps[1]?.getD undef = _ := hs 1 rfl
      simp only [List.getElem?_toArray, List.getElem?_cons_succ, List.getElem?_cons_zero, Option.getD_some, Array.getElem?_eq_some_iff] at e1
      refine .inl ⟨rfl, ?_⟩
      clear hs hd hx
      go_simp
      exact ⟨Ext.refl _ _, rfl⟩
    · intro a' w' hx hs hd
      obtain ⟨y, rfl⟩ := hx.ew
      have e14 : a'.tmps[14]?.getD undef = _ := hd 11 14 rfl rfl
      refine .inl ⟨rfl, ?_⟩
      clear hs hd hx
      go_simp
      exact ⟨Ext.refl _ _, rfl⟩
    · intro a' w' hx hs hd
      obtain ⟨y, rfl⟩ := hx.ew
      have e8 : a'.tmps[8]?.getD undef = _ := hd 5 8 rfl rfl
      have e10 : a'.tmps[10]?.getD undef = _ := hd 7 10 rfl rfl
      have e13 : a'.tmps[13]?.getD undef = _ := hd 10 13 rfl rfl
      have e15 : a'.tmps[15]?.getD undef = _ := hd 12 15 rfl rfl
      refine .inl ⟨rfl, ?_⟩
      clear hs hd hx
      go_simp
      exact ⟨Ext.refl _ _, rfl⟩
    · intro a' w' hx hs hd
      obtain ⟨y, rfl⟩ := hx.ew
      have e4 : a'.tmps[4]?.getD undef = _ := hd 1 4 rfl rfl
      have e6 : a'.tmps[6]?.getD undef = _ := hd 3 6 rfl rfl
      have e16 : a'.tmps[16]?.getD undef = _ := hd 13 16 rfl rfl
      refine .inl ⟨rfl, ?_⟩
      clear hs hd hx
      go_simp
      exact ⟨Ext.refl _ _, rfl⟩
  case' q1 =>
    intro vs w' hx hRR
    obtain ⟨xq, rfl⟩ := hx.ew
    have q0 : vs 0 = _ := hRR 0 (by decide)
    have q1 : vs 1 = _ := hRR 1 (by decide)
    have q2 : vs 2 = _ := hRR 2 (by decide)
    have q3 : vs 3 = _ := hRR 3 (by decide)
    have q4 : vs 4 = _ := hRR 4 (by decide)
    have q5 : vs 5 = _ := hRR 5 (by decide)
    have q6 : vs 6 = _ := hRR 6 (by decide)
    have q7 : vs 7 = _ := hRR 7 (by decide)
    have q8 : vs 8 = _ := hRR 8 (by decide)
    have q9 : vs 9 = _ := hRR 9 (by decide)
    have q10 : vs 10 = _ := hRR 10 (by decide)
    have q11 : vs 11 = _ := hRR 11 (by decide)
    have q12 : vs 12 = _ := hRR 12 (by decide)
    have q13 : vs 13 = _ := hRR 13 (by decide)
    have q14 : vs 14 = _ := hRR 14 (by decide)
    clear hRR hx
    simp only [putAll, List.take_succ_cons, List.take_zero, List.drop_succ_cons, List.drop_zero, Act.put, List.setIfInBounds_toArray, List.set_cons_zero, List.set_cons_succ, Nat.reduceAdd, Nat.zero_add]
    simp only [q0, q1, q2, q3, q4, q5, q6, q7, q8, q9, q10, q11, q12, q13, q14]
    clear q0 q1 q2 q3 q4 q5 q6 q7 q8 q9 q10 q11 q12 q13 q14 vs
  go_wp2_with (refine wpList_store_box rfl 49 _ _ rfl (w.heap.size + 1) _ [.int .i64 c, .int .i64 s, .int .i64 k, .string key, .float .f64 b.toNat, .int .i64 id] _ rfl rfl (Bx.extN (Bx.newAt _ _ _ _ (by simp)) xq.ext) rfl info_req6 (by simp [Value.oneCell']) (fun W hB => ?_); have BZ := Go.Lib.hid hB; clear hB)
  have r0 : W.on.cell? ⟨w.heap.size + 1, 0, none⟩ = some (.int .i64 c) := BZ.out.cell rfl
  have r1 : W.on.cell? ⟨w.heap.size + 1, 1, none⟩ = some (.int .i64 s) := BZ.out.cell rfl
  have r2 : W.on.cell? ⟨w.heap.size + 1, 2, none⟩ = some (.int .i64 k) := BZ.out.cell rfl
  have r3 : W.on.cell? ⟨w.heap.size + 1, 3, none⟩ = some (.string key) := BZ.out.cell rfl
  have r4 : W.on.cell? ⟨w.heap.size + 1, 4, none⟩ = some (.float .f64 b.toNat) := BZ.out.cell rfl
  have r5 : W.on.cell? ⟨w.heap.size + 1, 5, none⟩ = some (.int .i64 id) := BZ.out.cell rfl
  go_wp2
  trace_state
  exact bodyPost_ret (v := .agg #[.int .i64 c, .int .i64 s, .int .i64 k, .string key, .float .f64 b.toNat, .int .i64 id]) (by simp [results, Try.results23, go_sem, r0, r1, r2, r3, r4, r5]) rfl ⟨rfl, by (repeat (first | with_reducible exact Ext.refl _ _ | assumption | with_reducible refine Ext.upN ?_ | with_reducible refine Ext.alloc ?_ _ | with_reducible refine Ext.upA (by assumption) ?_ | with_reducible refine Ext.upW ?_ | with_reducible refine Ext.drew ?_ | with_reducible refine Ext.drewN ?_ _ | with_reducible refine Ext.upF ?_ | with_reducible refine Ext.upFF (by first | omega | simp) ?_ | with_reducible refine Ext.setCellsF _ _ _ (by first | omega | simp) ?_ | with_reducible refine Ext.setCellF _ _ _ (by first | omega | simp) ?_ | with_reducible refine Ext.upFN (by first | omega | simp) ?_ | with_reducible refine Ext.up1F (by first | omega | simp) ?_ | with_reducible refine Ext.up1N (by first | omega | simp) ?_ | with_reducible refine Ext.setCell ?_ (.inr (by first | omega | simp)) _ | refine Ext.alloc ?_ _ | refine Ext.setCellF _ _ _ (by first | omega | simp) ?_ | refine Ext.setCell ?_ (.inr (by first | omega | simp)) _))⟩
section
open Go.ChangeShapes Go.WideShapes
variable {H : Type} {enc : TypeId × Value → H} {W : World} {base n : Nat} {spare : Nat → Bool} {held : Bool}
theorem read_u64 {cs : List Value} {x : DataW H × List MemPlace} (h : DataW.trod enc Try.prog W base spare held n 55 cs = some x) : ∃ k : Int, cs = [.int .u64 k] ∧ 0 ≤ k ∧ k ≤ 18446744073709551615 := by
  obtain ⟨k, e, _, w⟩ := DataW.trod_int Try.underlying55 h
  refine ⟨k, e, ?_⟩
  simp only [Lit.wf, Bool.and_eq_true, decide_eq_true_eq] at w
  exact w
theorem c_u64 : (Try.prog).cellsOf 55 = 1 := by kernel_rfl
theorem c_ask : (Try.prog).cellsOf 57 = 6 := by kernel_rfl
theorem read_ask {cs : List Value} {x : DataW H × List MemPlace} (h : DataW.trod enc Try.prog W base spare held n 57 cs = some x) :
    ∃ (c s k : Int) (key : ByteArray) (b id : Int), cs = [.int .i64 c, .int .i64 s, .int .i64 k, .string key, .int .u64 b, .int .i64 id] ∧ ReqOk ⟨c, s, ⟨k, key, b.toNat, id⟩⟩ := by
  obtain ⟨hl, hf⟩ := read_struct Try.underlying57 h
  have hl : cs.length = 6 := hl.trans c_ask
  match cs, hl with
  | [v0, v1, v2, v3, v4, v5], _ =>
    obtain ⟨_, _, h0⟩ := hf 0 _ 3 0 1 rfl rfl rfl c_int
    obtain ⟨_, _, h1⟩ := hf 1 _ 3 1 1 rfl rfl rfl c_int
    obtain ⟨_, _, h2⟩ := hf 2 _ 3 2 1 rfl rfl rfl c_int
    obtain ⟨_, _, h3⟩ := hf 3 _ 9 3 1 rfl rfl rfl c_string
    obtain ⟨_, _, h4⟩ := hf 4 _ 55 4 1 rfl rfl rfl c_u64
    obtain ⟨_, _, h5⟩ := hf 5 _ 3 5 1 rfl rfl rfl c_int
    obtain ⟨k0, e0, w0⟩ := read_int h0
    obtain ⟨k1, e1, w1⟩ := read_int h1
    obtain ⟨k2, e2, w2⟩ := read_int h2
    obtain ⟨k3, e3, w3⟩ := read_str h3
    obtain ⟨k4, e4, w4⟩ := read_u64 h4
    obtain ⟨k5, e5, w5⟩ := read_int h5
    simp at e0 e1 e2 e3 e4 e5
    subst e0; subst e1; subst e2; subst e3; subst e4; subst e5
    exact ⟨k0, k1, k2, k3, k4, k5, rfl, ⟨w0, w1, w2, w5, by show k4.toNat < _; omega, w3⟩⟩
end
end Go.Proofs.Ytakbkpklfihfiaa
