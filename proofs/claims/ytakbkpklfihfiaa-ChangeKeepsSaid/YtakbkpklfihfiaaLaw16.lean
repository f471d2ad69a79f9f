/- Contracts of layer 16's law functions: four, signed. -/
import Derived.Test.YtakbkpklfihfiaaWhole
import Derived.Test.YtakbkpklfihfiaaRPick16
import Derived.Test.YtakbkpklfihfiaaPick16
import Derived.Test.YtakbkpklfihfiaaRel
namespace Go.Proofs.Ytakbkpklfihfiaa
open Go.RowKit Go.Lib F64
set_option linter.unusedSimpArgs false
set_option linter.unusedVariables false
attribute [local go_sem] run_store_float
attribute [local go_sem low] EW.cellN EW.frozN alloc_cell_or alloc_froz_or EW.cellF EW.frozF EW.cell1 EW.froz1
attribute [local go_sem] relAt relUpon
theorem ints_box (w : World) (xs : List Int) (t : TypeId) (k : Nat) (h : Bx w k (xs.map (Value.int .i64)) t) (hm : xs.length ≤ 9223372036854775807) (hx : ∀ x ∈ xs, I64 x) : Ints w (some ⟨k, 0, none⟩) xs.length xs :=
  ⟨Nat.le_refl _, hm, (fun e => by cases e), fun j hj => ⟨k, 0, rfl, by rw [Nat.zero_add]; exact h.cell (by rw [List.getElem?_map, List.getElem?_eq_getElem hj]; rfl), hx _ (List.getElem_mem hj)⟩⟩
set_option maxRecDepth 100000 in
theorem law16_four (w : World) : Calls Try.prog 55 #[] w fun e w' => ∃ b, e = .returned (.agg #[.int .i64 0, .slice (some ⟨b, 0, none⟩) 4 4]) ∧ Ints w' (some ⟨b, 0, none⟩) 4 [0, 1, 2, 3] ∧ Ext Non w w' := by
  go_enter Try.func55, Try.ntmps55
  go_wp2
  go_returns
  refine ⟨w.heap.size + 1, rfl, ints_box _ [0, 1, 2, 3] _ _ (Bx.newAt _ _ _ _ (by simp)) (by decide) (by intro x hx; simp at hx; unfold I64; omega), by (repeat (first | with_reducible exact Ext.refl _ _ | assumption | with_reducible refine Ext.upN ?_ | with_reducible refine Ext.alloc ?_ _ | with_reducible refine Ext.upA (by assumption) ?_ | with_reducible refine Ext.upW ?_ | with_reducible refine Ext.drew ?_ | with_reducible refine Ext.drewN ?_ _ | with_reducible refine Ext.upF ?_ | with_reducible refine Ext.upFF (by first | omega | simp) ?_ | with_reducible refine Ext.setCellsF _ _ _ (by first | omega | simp) ?_ | with_reducible refine Ext.setCellF _ _ _ (by first | omega | simp) ?_ | with_reducible refine Ext.upFN (by first | omega | simp) ?_ | with_reducible refine Ext.up1F (by first | omega | simp) ?_ | with_reducible refine Ext.up1N (by first | omega | simp) ?_ | with_reducible refine Ext.setCell ?_ (.inr (by first | omega | simp)) _ | refine Ext.alloc ?_ _ | refine Ext.setCellF _ _ _ (by first | omega | simp) ?_ | refine Ext.setCell ?_ (.inr (by first | omega | simp)) _))⟩
set_option maxHeartbeats 1000000 in
set_option maxRecDepth 100000 in
theorem law16_signed (epoch from_ view by_ : Int) (text : ByteArray) (ca : Option Addr) (ccap : Nat) (certs : List Ct) (hie : I64 epoch) (hif : I64 from_) (hiv : I64 view) (w : World) (h : Certs w ca ccap certs) :
    Calls Try.prog 30 #[.int .i64 epoch, .agg #[.int .i64 from_, .int .i64 view, .slice ca certs.length ccap, .int .i64 by_, .string text]] w fun e w' =>
    e = .returned (.agg #[.int .i64 from_, .int .i64 view, .slice ca certs.length ccap, .int .i64 from_, .string (chS epoch ⟨from_, view, certs, by_, text⟩)]) ∧ Ext Non w w' := by
  have HH := Go.Lib.hid h; clear h
  go_enter Try.func30, Try.ntmps30
  go_wp2_with fail
  refine Calls.ew (ref16_Text epoch from_ view by_ text ca ccap certs hie hif hiv _ (HH.out.extN (by (repeat (first | with_reducible exact Ext.refl _ _ | assumption | with_reducible refine Ext.upN ?_ | with_reducible refine Ext.alloc ?_ _ | with_reducible refine Ext.upA (by assumption) ?_ | with_reducible refine Ext.upW ?_ | with_reducible refine Ext.drew ?_ | with_reducible refine Ext.drewN ?_ _ | with_reducible refine Ext.upF ?_ | with_reducible refine Ext.upFF (by first | omega | simp) ?_ | with_reducible refine Ext.setCellsF _ _ _ (by first | omega | simp) ?_ | with_reducible refine Ext.setCellF _ _ _ (by first | omega | simp) ?_ | with_reducible refine Ext.upFN (by first | omega | simp) ?_ | with_reducible refine Ext.up1F (by first | omega | simp) ?_ | with_reducible refine Ext.up1N (by first | omega | simp) ?_ | with_reducible refine Ext.setCell ?_ (.inr (by first | omega | simp)) _ | refine Ext.alloc ?_ _ | refine Ext.setCellF _ _ _ (by first | omega | simp) ?_ | refine Ext.setCell ?_ (.inr (by first | omega | simp)) _))))) ?_
  rintro e x1 rfl
  generalize hts : chS epoch ⟨from_, view, certs, by_, text⟩ = ts at *
  have HTS := Go.Lib.hid hts; clear hts
  generalize chE epoch ⟨from_, view, certs, by_, text⟩ = te at *
  go_wp2
  go_returns
  exact ⟨by rw [HTS.out], by (repeat (first | with_reducible exact Ext.refl _ _ | assumption | with_reducible refine Ext.upN ?_ | with_reducible refine Ext.alloc ?_ _ | with_reducible refine Ext.upA (by assumption) ?_ | with_reducible refine Ext.upW ?_ | with_reducible refine Ext.drew ?_ | with_reducible refine Ext.drewN ?_ _ | with_reducible refine Ext.upF ?_ | with_reducible refine Ext.upFF (by first | omega | simp) ?_ | with_reducible refine Ext.setCellsF _ _ _ (by first | omega | simp) ?_ | with_reducible refine Ext.setCellF _ _ _ (by first | omega | simp) ?_ | with_reducible refine Ext.upFN (by first | omega | simp) ?_ | with_reducible refine Ext.up1F (by first | omega | simp) ?_ | with_reducible refine Ext.up1N (by first | omega | simp) ?_ | with_reducible refine Ext.setCell ?_ (.inr (by first | omega | simp)) _ | refine Ext.alloc ?_ _ | refine Ext.setCellF _ _ _ (by first | omega | simp) ?_ | refine Ext.setCell ?_ (.inr (by first | omega | simp)) _))⟩
theorem Sigs.ext {S : Nat → Prop} {w w' : World} {a : Option Addr} {cap : Nat} {l : List Sg} (h : Sigs w a cap l) (x : Ext S w w') (hs : ∀ b o, a = some ⟨b, o, none⟩ → ¬ S b) : Sigs w' a cap l :=
  ⟨h.le, h.small, fun j hj => by
    obtain ⟨b, o, e, hb, c0, c1, r⟩ := h.at_ j hj
    exact ⟨b, o, e, Nat.lt_of_lt_of_le hb x.size, (x.cell (p := ⟨b, o + j * 2, none⟩) hb (hs b o e)).trans c0, (x.cell (p := ⟨b, o + j * 2 + 1, none⟩) hb (hs b o e)).trans c1, r⟩⟩
theorem prepS_size (e v sl : Int) (r : Req) : (prepS e v sl r).size ≤ 100 := by
  have h := reqS_size r
  unfold reqS at h
  have h1 : (reqL r).length ≤ 34 := by simpa [ByteArray.size] using h
  unfold prepS prepL
  split
  · show (headL 80 e v sl ++ reqL r).toArray.size ≤ 100
    unfold headL big1 big4
    simp; omega
  · show ([] : List UInt8).toArray.size ≤ 100
    simp
def sigCells (l : List Sg) : List Value := l.flatMap fun s => [.int .i64 s.by_, .string s.text]
theorem sigCells_snoc (l : List Sg) (s : Sg) : sigCells (l ++ [s]) = sigCells l ++ [.int .i64 s.by_, .string s.text] := by simp [sigCells]
def sigsOf (ms : List Int) (t : ByteArray) : List Sg := ms.map fun m => ⟨m, t⟩
theorem info_sig : (Try.prog.info? 24).map (fun i => (i.zero, i.size, i.bytes)) = some (some (.agg #[.int .i64 0, .string ByteArray.empty]), 2, 24) := by kernel_rfl
theorem sigCells_get : ∀ (l : List Sg) (j i : Nat) (h : j < l.length), i < 2 → (sigCells l)[j * 2 + i]? = ([.int .i64 l[j].by_, .string l[j].text] : List Value)[i]?
  | r :: t, 0, i, _, hi => by
    show ([.int .i64 r.by_, .string r.text] ++ sigCells t)[0 * 2 + i]? = _
    rw [List.getElem?_append_left (by show 0 * 2 + i < 2; omega), Nat.zero_mul, Nat.zero_add]; rfl
  | r :: t, j + 1, i, h, hi => by
    show ([.int .i64 r.by_, .string r.text] ++ sigCells t)[(j + 1) * 2 + i]? = _
    rw [List.getElem?_append_right (by show 2 ≤ _; omega), show (j + 1) * 2 + i - ([.int .i64 r.by_, .string r.text] : List Value).length = j * 2 + i by show (j + 1) * 2 + i - 2 = _; omega]
    exact sigCells_get t j i (by simpa using h) hi
theorem sigs_of_own {w : World} {base : Nat} {e : TypeId} {v : Value} {n : Nat} {l : List Sg} (h : w.ownsRow base e 2 v n (sigCells l)) (hn : n = l.length) (hi : ∀ s ∈ l, I64 s.by_ ∧ s.text.size ≤ 9223372036854775807) : ∃ a cap, v = .slice a n cap ∧ Sigs w a cap l := by
  subst hn
  rcases h.2 with ⟨rfl, hn⟩ | ⟨g, cap, cur, rfl, hb, hg, hc, hm, hs, ht⟩
  · exact ⟨none, 0, by rw [hn], by omega, by omega, fun j hj => by omega⟩
  · refine ⟨_, cap, rfl, hc, by unfold maxLen at hm; omega, fun j hj => ?_⟩
    have key : ∀ i u, i < 2 → ([.int .i64 l[j].by_, .string l[j].text] : List Value)[i]? = some u → w.cell? ⟨g, j * 2 + i, none⟩ = some u := by
      intro i u hi2 hu
      have e := sigCells_get l j i hj hi2
      rw [hu, ← ht, List.getElem?_take, if_pos (by omega), Array.getElem?_toList] at e
      have hgc : w.cell? ⟨g, j * 2 + i, none⟩ = cur[j * 2 + i]? := by simp [World.cell?, hg]
      rw [hgc]; exact e
    rw [sgAt_get hj]
    have hh := hi _ (List.getElem_mem hj)
    exact ⟨g, 0, rfl, (Array.getElem?_eq_some_iff.1 hg).1, by rw [Nat.zero_add]; exact key 0 _ (by omega) rfl, by rw [Nat.zero_add]; exact key 1 _ (by omega) rfl, hh.1, hh.2⟩
def sig1 (m : Int) (t : ByteArray) : Mo := ⟨fun v w => ∃ g, v = .slice (some ⟨g, 0, none⟩) 1 1 ∧ Bx w g [.int .i64 m, .string t] 24, fun _ _ _ x ⟨g, e, h⟩ => ⟨g, e, h.extN x⟩⟩
set_option maxHeartbeats 1000000 in
set_option maxRecDepth 100000 in
theorem law16_certF (epoch view slot c s k : Int) (key : ByteArray) (x : Nat) (id : Int) (he : I64 epoch) (hv : I64 view) (hsl : I64 slot) (hr : ReqOk ⟨c, s, ⟨k, key, x, id⟩⟩) (ma : Option Addr) (mcap : Nat) (ms : List Int) (hml : ms.length ≤ 1000000) (w : World) (h : Ints w ma mcap ms) :
    Calls Try.prog 29 #[.int .i64 epoch, .int .i64 view, .int .i64 slot, .agg #[.int .i64 c, .int .i64 s, .int .i64 k, .string key, .float .f64 x, .int .i64 id], .slice ma ms.length mcap] w fun e w' =>
    ∃ sa scap, e = .returned (.agg ((⟨view, slot, ⟨c, s, ⟨k, key, x, id⟩⟩, sigsOf ms (prepS epoch view slot ⟨c, s, ⟨k, key, x, id⟩⟩)⟩ : Ct).cells sa scap).toArray) ∧ Sigs w' sa scap (sigsOf ms (prepS epoch view slot ⟨c, s, ⟨k, key, x, id⟩⟩)) ∧ Ext Non w w' ∧ (∀ b o, sa = some ⟨b, o, none⟩ → w.heap.size ≤ b) := by
  have HH := Go.Lib.hid h; have HR := Go.Lib.hid hr; have HI := Go.Lib.hid (And.intro he (And.intro hv hsl))
  have hsm := h.small; have hle := h.le
  clear h hr he hv hsl
  go_enter Try.func29, Try.ntmps29
  go_wp2_with fail
  refine Calls.ew (ref_Prepared epoch view slot c s k key x id HI.out.1 HI.out.2.1 HI.out.2.2 HR.out.c HR.out.s HR.out.k HR.out.id HR.out.x HR.out.key _) ?_
  rintro e x1 rfl
  generalize hts : prepS epoch view slot ⟨c, s, ⟨k, key, x, id⟩⟩ = ts at *
  have HTS := Go.Lib.hid hts; clear hts
  generalize prepE epoch view slot ⟨c, s, ⟨k, key, x, id⟩⟩ = te at *
  go_wp2_with fail
  go_loopw [14] (fun iv wr => ∃ (i : Nat) (v : Value) (z : EW (From w.heap.size) w), i ≤ ms.length ∧ iv = .int .i64 i ∧ wr = z.on ∧ Hid (Bx wr (w.heap.size + 1) ((default : Ct).cells none 0) 52) ∧ Hid (Bx wr (w.heap.size + 1 + 1) [.int .i64 view, .int .i64 slot, .int .i64 c, .int .i64 s, .int .i64 k, .string key, .float .f64 x, .int .i64 id, v] 52) ∧ Hid (wr.ownsRow (w.heap.size + 3) 24 2 v i (sigCells ((sigsOf ms ts).take i)))) (fun iv _ => ms.length - (intOf iv).toNat)
  case atStart => exact ⟨0, .slice none 0 0, ⟨_, Ext.upN (by (repeat (first | with_reducible exact Ext.refl _ _ | assumption | with_reducible refine Ext.upN ?_ | with_reducible refine Ext.alloc ?_ _ | with_reducible refine Ext.upA (by assumption) ?_ | with_reducible refine Ext.upW ?_ | with_reducible refine Ext.drew ?_ | with_reducible refine Ext.drewN ?_ _ | with_reducible refine Ext.upF ?_ | with_reducible refine Ext.upFF (by first | omega | simp) ?_ | with_reducible refine Ext.setCellsF _ _ _ (by first | omega | simp) ?_ | with_reducible refine Ext.setCellF _ _ _ (by first | omega | simp) ?_ | with_reducible refine Ext.upFN (by first | omega | simp) ?_ | with_reducible refine Ext.up1F (by first | omega | simp) ?_ | with_reducible refine Ext.up1N (by first | omega | simp) ?_ | with_reducible refine Ext.setCell ?_ (.inr (by first | omega | simp)) _ | refine Ext.alloc ?_ _ | refine Ext.setCellF _ _ _ (by first | omega | simp) ?_ | refine Ext.setCell ?_ (.inr (by first | omega | simp)) _)))⟩, Nat.zero_le _, rfl, rfl, Go.Lib.hid (Bx.extN ((Bx.newAt _ _ _ _ (by simp)).alloc _) x1.ext), Go.Lib.hid (Bx.extN (Bx.newAt _ _ _ _ (by simp)) x1.ext), Go.Lib.hid (by rw [List.take_zero]; exact World.ownsRow_nil _ _ _ _)⟩
  case round =>
    obtain ⟨i, v, z, hi, rfl, rfl, B0, BX, HO⟩ := hrel
    by_cases hlt : i < ms.length
    · obtain ⟨mb, mo, rfl, hc0, hc1⟩ := HH.out.at_ i hlt
      have hmb := lt_of_cell hc0
      have hmb' : mb < w.heap.size := hmb
      have q8 : z.on.cell? ⟨w.heap.size + 1 + 1, 8, none⟩ = some v := BX.out.cell rfl
      have f8 : z.on.frozen? ⟨w.heap.size + 1 + 1, 8, none⟩ = false := froz_of_heap BX.out.h
      have hil : (i : Int) < (ms.length : Int) := by omega
      have hz3 : w.heap.size + 3 ≤ z.on.heap.size := by have := BX.out.lt; omega
      clear hc1
      go_upto_region 6 with fail
      refine wp_region_rel_tail 9 (relR [Mo.is (.pointer (some ⟨w.heap.size + 1 + 1, 8, none⟩)), Mo.is v, Mo.is (.slice (some ⟨mb, mo, none⟩) ms.length mcap), Mo.is (.int .i64 (i : Int)), Mo.is (.pointer (some ⟨mb, mo + i, none⟩)), Mo.is (.int .i64 ms[i]), Mo.is (.string ts), Mo.is (.agg #[.int .i64 ms[i], .string ts]), sig1 ms[i] ts]) (by kernel_rfl) (by kernel_rfl) (by kernel_rfl) (by kernel_rfl) (by kernel_rfl) (by decide) (by kernel_rfl) (relR_mono _) (StepL.all ?st) ?q
      case st =>
        refine ⟨?_, ?_, ?_, ?_, ?_, ?_, ?_, ?_, ?_, trivial⟩
        · intro a' w' hx hs hd
          obtain ⟨y, rfl⟩ := hx.ew
          have e11 : a'.tmps[11]?.getD undef = .pointer (some ⟨w.heap.size + 1 + 1, 0, none⟩) := hs 11 rfl
          clear hs hd
          refine ⟨rfl, ?_⟩
          go_simp
          exact ⟨by (repeat (first | with_reducible exact Ext.refl _ _ | assumption | with_reducible refine Ext.upN ?_ | with_reducible refine Ext.alloc ?_ _ | with_reducible refine Ext.upA (by assumption) ?_ | with_reducible refine Ext.upW ?_ | with_reducible refine Ext.drew ?_ | with_reducible refine Ext.drewN ?_ _ | with_reducible refine Ext.upF ?_ | with_reducible refine Ext.upFF (by first | omega | simp) ?_ | with_reducible refine Ext.setCellsF _ _ _ (by first | omega | simp) ?_ | with_reducible refine Ext.setCellF _ _ _ (by first | omega | simp) ?_ | with_reducible refine Ext.upFN (by first | omega | simp) ?_ | with_reducible refine Ext.up1F (by first | omega | simp) ?_ | with_reducible refine Ext.up1N (by first | omega | simp) ?_ | with_reducible refine Ext.setCell ?_ (.inr (by first | omega | simp)) _ | refine Ext.alloc ?_ _ | refine Ext.setCellF _ _ _ (by first | omega | simp) ?_ | refine Ext.setCell ?_ (.inr (by first | omega | simp)) _)), rfl⟩
        · intro a' w' hx hs hd
          obtain ⟨y, rfl⟩ := hx.ew
          have e33 : a'.tmps[33]?.getD undef = .pointer (some ⟨w.heap.size + 1 + 1, 8, none⟩) := hd 0 33 rfl rfl
          clear hs hd
          refine ⟨rfl, ?_⟩
          go_simp
          exact ⟨by (repeat (first | with_reducible exact Ext.refl _ _ | assumption | with_reducible refine Ext.upN ?_ | with_reducible refine Ext.alloc ?_ _ | with_reducible refine Ext.upA (by assumption) ?_ | with_reducible refine Ext.upW ?_ | with_reducible refine Ext.drew ?_ | with_reducible refine Ext.drewN ?_ _ | with_reducible refine Ext.upF ?_ | with_reducible refine Ext.upFF (by first | omega | simp) ?_ | with_reducible refine Ext.setCellsF _ _ _ (by first | omega | simp) ?_ | with_reducible refine Ext.setCellF _ _ _ (by first | omega | simp) ?_ | with_reducible refine Ext.upFN (by first | omega | simp) ?_ | with_reducible refine Ext.up1F (by first | omega | simp) ?_ | with_reducible refine Ext.up1N (by first | omega | simp) ?_ | with_reducible refine Ext.setCell ?_ (.inr (by first | omega | simp)) _ | refine Ext.alloc ?_ _ | refine Ext.setCellF _ _ _ (by first | omega | simp) ?_ | refine Ext.setCell ?_ (.inr (by first | omega | simp)) _)), rfl⟩
        · intro a' w' hx hs hd
          obtain ⟨y, rfl⟩ := hx.ew
          have e4 : a'.tmps[4]?.getD undef = .slice (some ⟨mb, mo, none⟩) ms.length mcap := hs 4 rfl
          clear hs hd
          refine ⟨rfl, ?_⟩
          go_simp
          exact ⟨by (repeat (first | with_reducible exact Ext.refl _ _ | assumption | with_reducible refine Ext.upN ?_ | with_reducible refine Ext.alloc ?_ _ | with_reducible refine Ext.upA (by assumption) ?_ | with_reducible refine Ext.upW ?_ | with_reducible refine Ext.drew ?_ | with_reducible refine Ext.drewN ?_ _ | with_reducible refine Ext.upF ?_ | with_reducible refine Ext.upFF (by first | omega | simp) ?_ | with_reducible refine Ext.setCellsF _ _ _ (by first | omega | simp) ?_ | with_reducible refine Ext.setCellF _ _ _ (by first | omega | simp) ?_ | with_reducible refine Ext.upFN (by first | omega | simp) ?_ | with_reducible refine Ext.up1F (by first | omega | simp) ?_ | with_reducible refine Ext.up1N (by first | omega | simp) ?_ | with_reducible refine Ext.setCell ?_ (.inr (by first | omega | simp)) _ | refine Ext.alloc ?_ _ | refine Ext.setCellF _ _ _ (by first | omega | simp) ?_ | refine Ext.setCell ?_ (.inr (by first | omega | simp)) _)), rfl⟩
        · intro a' w' hx hs hd
          obtain ⟨y, rfl⟩ := hx.ew
          have e14 : a'.tmps[14]?.getD undef = .int .i64 (i : Int) := hs 14 rfl
          clear hs hd
          refine ⟨rfl, ?_⟩
          go_simp
          exact ⟨by (repeat (first | with_reducible exact Ext.refl _ _ | assumption | with_reducible refine Ext.upN ?_ | with_reducible refine Ext.alloc ?_ _ | with_reducible refine Ext.upA (by assumption) ?_ | with_reducible refine Ext.upW ?_ | with_reducible refine Ext.drew ?_ | with_reducible refine Ext.drewN ?_ _ | with_reducible refine Ext.upF ?_ | with_reducible refine Ext.upFF (by first | omega | simp) ?_ | with_reducible refine Ext.setCellsF _ _ _ (by first | omega | simp) ?_ | with_reducible refine Ext.setCellF _ _ _ (by first | omega | simp) ?_ | with_reducible refine Ext.upFN (by first | omega | simp) ?_ | with_reducible refine Ext.up1F (by first | omega | simp) ?_ | with_reducible refine Ext.up1N (by first | omega | simp) ?_ | with_reducible refine Ext.setCell ?_ (.inr (by first | omega | simp)) _ | refine Ext.alloc ?_ _ | refine Ext.setCellF _ _ _ (by first | omega | simp) ?_ | refine Ext.setCell ?_ (.inr (by first | omega | simp)) _)), rfl⟩
        · intro a' w' hx hs hd
          obtain ⟨y, rfl⟩ := hx.ew
          have e35 : a'.tmps[35]?.getD undef = .slice (some ⟨mb, mo, none⟩) ms.length mcap := hd 2 35 rfl rfl
          have e36 : a'.tmps[36]?.getD undef = .int .i64 (i : Int) := hd 3 36 rfl rfl
          clear hs hd
          refine ⟨rfl, ?_⟩
          go_simp
          exact ⟨by (repeat (first | with_reducible exact Ext.refl _ _ | assumption | with_reducible refine Ext.upN ?_ | with_reducible refine Ext.alloc ?_ _ | with_reducible refine Ext.upA (by assumption) ?_ | with_reducible refine Ext.upW ?_ | with_reducible refine Ext.drew ?_ | with_reducible refine Ext.drewN ?_ _ | with_reducible refine Ext.upF ?_ | with_reducible refine Ext.upFF (by first | omega | simp) ?_ | with_reducible refine Ext.setCellsF _ _ _ (by first | omega | simp) ?_ | with_reducible refine Ext.setCellF _ _ _ (by first | omega | simp) ?_ | with_reducible refine Ext.upFN (by first | omega | simp) ?_ | with_reducible refine Ext.up1F (by first | omega | simp) ?_ | with_reducible refine Ext.up1N (by first | omega | simp) ?_ | with_reducible refine Ext.setCell ?_ (.inr (by first | omega | simp)) _ | refine Ext.alloc ?_ _ | refine Ext.setCellF _ _ _ (by first | omega | simp) ?_ | refine Ext.setCell ?_ (.inr (by first | omega | simp)) _)), rfl⟩
        · intro a' w' hx hs hd
          obtain ⟨y, rfl⟩ := hx.ew
          have e37 : a'.tmps[37]?.getD undef = .pointer (some ⟨mb, mo + i, none⟩) := hd 4 37 rfl rfl
          clear hs hd
          refine ⟨rfl, ?_⟩
          go_simp
          exact ⟨by (repeat (first | with_reducible exact Ext.refl _ _ | assumption | with_reducible refine Ext.upN ?_ | with_reducible refine Ext.alloc ?_ _ | with_reducible refine Ext.upA (by assumption) ?_ | with_reducible refine Ext.upW ?_ | with_reducible refine Ext.drew ?_ | with_reducible refine Ext.drewN ?_ _ | with_reducible refine Ext.upF ?_ | with_reducible refine Ext.upFF (by first | omega | simp) ?_ | with_reducible refine Ext.setCellsF _ _ _ (by first | omega | simp) ?_ | with_reducible refine Ext.setCellF _ _ _ (by first | omega | simp) ?_ | with_reducible refine Ext.upFN (by first | omega | simp) ?_ | with_reducible refine Ext.up1F (by first | omega | simp) ?_ | with_reducible refine Ext.up1N (by first | omega | simp) ?_ | with_reducible refine Ext.setCell ?_ (.inr (by first | omega | simp)) _ | refine Ext.alloc ?_ _ | refine Ext.setCellF _ _ _ (by first | omega | simp) ?_ | refine Ext.setCell ?_ (.inr (by first | omega | simp)) _)), rfl⟩
        · intro a' w' hx hs hd
          obtain ⟨y, rfl⟩ := hx.ew
          have e12 : a'.tmps[12]?.getD undef = .string ts := hs 12 rfl
          clear hs hd
          refine ⟨rfl, ?_⟩
          go_simp
          exact ⟨by (repeat (first | with_reducible exact Ext.refl _ _ | assumption | with_reducible refine Ext.upN ?_ | with_reducible refine Ext.alloc ?_ _ | with_reducible refine Ext.upA (by assumption) ?_ | with_reducible refine Ext.upW ?_ | with_reducible refine Ext.drew ?_ | with_reducible refine Ext.drewN ?_ _ | with_reducible refine Ext.upF ?_ | with_reducible refine Ext.upFF (by first | omega | simp) ?_ | with_reducible refine Ext.setCellsF _ _ _ (by first | omega | simp) ?_ | with_reducible refine Ext.setCellF _ _ _ (by first | omega | simp) ?_ | with_reducible refine Ext.upFN (by first | omega | simp) ?_ | with_reducible refine Ext.up1F (by first | omega | simp) ?_ | with_reducible refine Ext.up1N (by first | omega | simp) ?_ | with_reducible refine Ext.setCell ?_ (.inr (by first | omega | simp)) _ | refine Ext.alloc ?_ _ | refine Ext.setCellF _ _ _ (by first | omega | simp) ?_ | refine Ext.setCell ?_ (.inr (by first | omega | simp)) _)), rfl⟩
        · intro a' w' hx hs hd
          obtain ⟨y, rfl⟩ := hx.ew
          have e38 : a'.tmps[38]?.getD undef = .int .i64 ms[i] := hd 5 38 rfl rfl
          have e39 : a'.tmps[39]?.getD undef = .string ts := hd 6 39 rfl rfl
          clear hs hd
          refine ⟨rfl, ?_⟩
          go_simp
          exact ⟨by (repeat (first | with_reducible exact Ext.refl _ _ | assumption | with_reducible refine Ext.upN ?_ | with_reducible refine Ext.alloc ?_ _ | with_reducible refine Ext.upA (by assumption) ?_ | with_reducible refine Ext.upW ?_ | with_reducible refine Ext.drew ?_ | with_reducible refine Ext.drewN ?_ _ | with_reducible refine Ext.upF ?_ | with_reducible refine Ext.upFF (by first | omega | simp) ?_ | with_reducible refine Ext.setCellsF _ _ _ (by first | omega | simp) ?_ | with_reducible refine Ext.setCellF _ _ _ (by first | omega | simp) ?_ | with_reducible refine Ext.upFN (by first | omega | simp) ?_ | with_reducible refine Ext.up1F (by first | omega | simp) ?_ | with_reducible refine Ext.up1N (by first | omega | simp) ?_ | with_reducible refine Ext.setCell ?_ (.inr (by first | omega | simp)) _ | refine Ext.alloc ?_ _ | refine Ext.setCellF _ _ _ (by first | omega | simp) ?_ | refine Ext.setCell ?_ (.inr (by first | omega | simp)) _)), rfl⟩
        · intro a' w' hx hs hd
          obtain ⟨y, rfl⟩ := hx.ew
          have e40 : a'.tmps[40]?.getD undef = .agg #[.int .i64 ms[i], .string ts] := hd 7 40 rfl rfl
          clear hs hd
          refine ⟨rfl, ?_⟩
          go_simp
          exact ⟨by (repeat (first | with_reducible exact Ext.refl _ _ | assumption | with_reducible refine Ext.upN ?_ | with_reducible refine Ext.alloc ?_ _ | with_reducible refine Ext.upA (by assumption) ?_ | with_reducible refine Ext.upW ?_ | with_reducible refine Ext.drew ?_ | with_reducible refine Ext.drewN ?_ _ | with_reducible refine Ext.upF ?_ | with_reducible refine Ext.upFF (by first | omega | simp) ?_ | with_reducible refine Ext.setCellsF _ _ _ (by first | omega | simp) ?_ | with_reducible refine Ext.setCellF _ _ _ (by first | omega | simp) ?_ | with_reducible refine Ext.upFN (by first | omega | simp) ?_ | with_reducible refine Ext.up1F (by first | omega | simp) ?_ | with_reducible refine Ext.up1N (by first | omega | simp) ?_ | with_reducible refine Ext.setCell ?_ (.inr (by first | omega | simp)) _ | refine Ext.alloc ?_ _ | refine Ext.setCellF _ _ _ (by first | omega | simp) ?_ | refine Ext.setCell ?_ (.inr (by first | omega | simp)) _)), ⟨_, rfl, Bx.new _ _ _⟩⟩
      case q =>
        intro vs w' hx hR
        obtain ⟨y, rfl⟩ := hx.ew
        have v1 : vs 1 = v := hR 1 (by decide)
        obtain ⟨g0, v8, hB⟩ : ∃ g, vs 8 = .slice (some ⟨g, 0, none⟩) 1 1 ∧ Bx y.on g [.int .i64 ms[i], .string ts] 24 := hR 8 (by decide)
        have HB8 := Go.Lib.hid hB
        clear hB hR
        simp only [putAll, List.take_succ_cons, List.take_zero, List.drop_succ_cons, List.drop_zero, Act.put, List.setIfInBounds_toArray, List.set_cons_zero, List.set_cons_succ, Nat.reduceAdd, Nat.zero_add]
        simp only [v1, v8]
        go_wp2_with (at_builtin; refine wpList_append_ew rfl _ _ 50 rfl (w.heap.size + 3) 24 2 24 _ Try.underlying50 info_sig (by rfl) (by omega) (by omega) _ i _ rfl (ownR_extN HO.out (by (repeat (first | with_reducible exact Ext.refl _ _ | assumption | with_reducible refine Ext.upN ?_ | with_reducible refine Ext.alloc ?_ _ | with_reducible refine Ext.upA (by assumption) ?_ | with_reducible refine Ext.upW ?_ | with_reducible refine Ext.drew ?_ | with_reducible refine Ext.drewN ?_ _ | with_reducible refine Ext.upF ?_ | with_reducible refine Ext.upFF (by first | omega | simp) ?_ | with_reducible refine Ext.setCellsF _ _ _ (by first | omega | simp) ?_ | with_reducible refine Ext.setCellF _ _ _ (by first | omega | simp) ?_ | with_reducible refine Ext.upFN (by first | omega | simp) ?_ | with_reducible refine Ext.up1F (by first | omega | simp) ?_ | with_reducible refine Ext.up1N (by first | omega | simp) ?_ | with_reducible refine Ext.setCell ?_ (.inr (by first | omega | simp)) _ | refine Ext.alloc ?_ _ | refine Ext.setCellF _ _ _ (by first | omega | simp) ?_ | refine Ext.setCell ?_ (.inr (by first | omega | simp)) _)))) g0 [.int .i64 ms[i], .string ts] 24 rfl HB8.out rfl (by simp [Value.oneCell']) (by omega) (by have h1 := hz3; have h2 := y.ext.size; omega) (fun v' W2 hO => ?_); obtain ⟨g, gc, rfl, hg⟩ := ownR_some hO; have HO2 := Go.Lib.hid hO; clear hO)
        have HT : Hid ((sigsOf ms ts).take (i + 1) = (sigsOf ms ts).take i ++ [⟨ms[i], ts⟩]) := Go.Lib.hid (by
          have hl : i < (sigsOf ms ts).length := by simp [sigsOf]; exact hlt
          rw [List.take_succ_eq_append_getElem hl]; simp [sigsOf])
        go_roundw
        case rel => exact ⟨i + 1, .slice (some ⟨g, 0, none⟩) (i + 1) gc, ⟨_, by (repeat (first | with_reducible exact Ext.refl _ _ | assumption | with_reducible refine Ext.upN ?_ | with_reducible refine Ext.alloc ?_ _ | with_reducible refine Ext.upA (by assumption) ?_ | with_reducible refine Ext.upW ?_ | with_reducible refine Ext.drew ?_ | with_reducible refine Ext.drewN ?_ _ | with_reducible refine Ext.upF ?_ | with_reducible refine Ext.upFF (by first | omega | simp) ?_ | with_reducible refine Ext.setCellsF _ _ _ (by first | omega | simp) ?_ | with_reducible refine Ext.setCellF _ _ _ (by first | omega | simp) ?_ | with_reducible refine Ext.upFN (by first | omega | simp) ?_ | with_reducible refine Ext.up1F (by first | omega | simp) ?_ | with_reducible refine Ext.up1N (by first | omega | simp) ?_ | with_reducible refine Ext.setCell ?_ (.inr (by first | omega | simp)) _ | refine Ext.alloc ?_ _ | refine Ext.setCellF _ _ _ (by first | omega | simp) ?_ | refine Ext.setCell ?_ (.inr (by first | omega | simp)) _))⟩, hlt, by go_num, rfl, Go.Lib.hid (((B0.out.ext (by (repeat (first | with_reducible exact Ext.refl _ _ | assumption | with_reducible refine Ext.upN ?_ | with_reducible refine Ext.alloc ?_ _ | with_reducible refine Ext.upA (by assumption) ?_ | with_reducible refine Ext.upW ?_ | with_reducible refine Ext.drew ?_ | with_reducible refine Ext.drewN ?_ _ | with_reducible refine Ext.upF ?_ | with_reducible refine Ext.upFF (by first | omega | simp) ?_ | with_reducible refine Ext.setCellsF _ _ _ (by first | omega | simp) ?_ | with_reducible refine Ext.setCellF _ _ _ (by first | omega | simp) ?_ | with_reducible refine Ext.upFN (by first | omega | simp) ?_ | with_reducible refine Ext.up1F (by first | omega | simp) ?_ | with_reducible refine Ext.up1N (by first | omega | simp) ?_ | with_reducible refine Ext.setCell ?_ (.inr (by first | omega | simp)) _ | refine Ext.alloc ?_ _ | refine Ext.setCellF _ _ _ (by first | omega | simp) ?_ | refine Ext.setCell ?_ (.inr (by first | omega | simp)) _)) : Ext (From (w.heap.size + 3)) z.on W2.on) (by unfold From; omega)).ext ((Ext.refl (One (w.heap.size + 1 + 1)) _).set1 _) (by unfold One; omega))), Go.Lib.hid ((BX.out.ext (by (repeat (first | with_reducible exact Ext.refl _ _ | assumption | with_reducible refine Ext.upN ?_ | with_reducible refine Ext.alloc ?_ _ | with_reducible refine Ext.upA (by assumption) ?_ | with_reducible refine Ext.upW ?_ | with_reducible refine Ext.drew ?_ | with_reducible refine Ext.drewN ?_ _ | with_reducible refine Ext.upF ?_ | with_reducible refine Ext.upFF (by first | omega | simp) ?_ | with_reducible refine Ext.setCellsF _ _ _ (by first | omega | simp) ?_ | with_reducible refine Ext.setCellF _ _ _ (by first | omega | simp) ?_ | with_reducible refine Ext.upFN (by first | omega | simp) ?_ | with_reducible refine Ext.up1F (by first | omega | simp) ?_ | with_reducible refine Ext.up1N (by first | omega | simp) ?_ | with_reducible refine Ext.setCell ?_ (.inr (by first | omega | simp)) _ | refine Ext.alloc ?_ _ | refine Ext.setCellF _ _ _ (by first | omega | simp) ?_ | refine Ext.setCell ?_ (.inr (by first | omega | simp)) _)) : Ext (From (w.heap.size + 3)) z.on W2.on) (by unfold From; omega)).set _), Go.Lib.hid (by rw [HT.out, sigCells_snoc]; exact ownR_ext HO2.out ((Ext.refl (One (w.heap.size + 1 + 1)) _).set1 _) (fun q hq e => by unfold One at e; have := (HO2.out.lt q hq).1; omega))⟩
        case measure => simp [intOf]; omega
    · have HT : Hid (sigsOf ms ts = (sigsOf ms ts).take i) := Go.Lib.hid (by rw [List.take_of_length_le (by simp [sigsOf]; omega)])
      have HN : Hid (i = ms.length) := Go.Lib.hid (by omega)
      have q0 : z.on.cell? ⟨w.heap.size + 1 + 1, 0, none⟩ = some (.int .i64 view) := BX.out.cell rfl
      have q1 : z.on.cell? ⟨w.heap.size + 1 + 1, 1, none⟩ = some (.int .i64 slot) := BX.out.cell rfl
      have q2 : z.on.cell? ⟨w.heap.size + 1 + 1, 2, none⟩ = some (.int .i64 c) := BX.out.cell rfl
      have q3 : z.on.cell? ⟨w.heap.size + 1 + 1, 3, none⟩ = some (.int .i64 s) := BX.out.cell rfl
      have q4 : z.on.cell? ⟨w.heap.size + 1 + 1, 4, none⟩ = some (.int .i64 k) := BX.out.cell rfl
      have q5 : z.on.cell? ⟨w.heap.size + 1 + 1, 5, none⟩ = some (.string key) := BX.out.cell rfl
      have q6 : z.on.cell? ⟨w.heap.size + 1 + 1, 6, none⟩ = some (.float .f64 x) := BX.out.cell rfl
      have q7 : z.on.cell? ⟨w.heap.size + 1 + 1, 7, none⟩ = some (.int .i64 id) := BX.out.cell rfl
      have q8 : z.on.cell? ⟨w.heap.size + 1 + 1, 8, none⟩ = some v := BX.out.cell rfl
      have hO := HO.out
      rw [← HT.out] at hO
      obtain ⟨va, vc, rfl, hvs⟩ := sigs_of_own hO (by simp [sigsOf]; omega) (by
        intro q hq
        obtain ⟨m, hm, rfl⟩ := List.mem_map.1 hq
        obtain ⟨jm, hjm, rfl⟩ := List.getElem_of_mem hm
        obtain ⟨_, _, _, _, h64⟩ := HH.out.at_ jm hjm
        refine ⟨h64, ?_⟩
        show ts.size ≤ _
        have := prepS_size epoch view slot ⟨c, s, ⟨k, key, x, id⟩⟩
        rw [HTS.out] at this
        omega)
      have HVS := Go.Lib.hid hvs
      clear hO hvs
      have hw1 : w.heap.size + 1 ≠ w.heap.size + 1 + 1 := by omega
      go_wp2_with (refine wpList_store_box rfl 52 _ _ rfl (w.heap.size + 1) _ [.int .i64 view, .int .i64 slot, .int .i64 c, .int .i64 s, .int .i64 k, .string key, .float .f64 x, .int .i64 id, .slice va i vc] _ rfl rfl B0.out rfl info_cert (by simp [Value.oneCell']) (fun W hB => ?_); have BZ := Go.Lib.hid hB; clear hB)
      have r0 : W.on.cell? ⟨w.heap.size + 1, 0, none⟩ = some (.int .i64 view) := BZ.out.cell rfl
      have r1 : W.on.cell? ⟨w.heap.size + 1, 1, none⟩ = some (.int .i64 slot) := BZ.out.cell rfl
      have r2 : W.on.cell? ⟨w.heap.size + 1, 2, none⟩ = some (.int .i64 c) := BZ.out.cell rfl
      have r3 : W.on.cell? ⟨w.heap.size + 1, 3, none⟩ = some (.int .i64 s) := BZ.out.cell rfl
      have r4 : W.on.cell? ⟨w.heap.size + 1, 4, none⟩ = some (.int .i64 k) := BZ.out.cell rfl
      have r5 : W.on.cell? ⟨w.heap.size + 1, 5, none⟩ = some (.string key) := BZ.out.cell rfl
      have r6 : W.on.cell? ⟨w.heap.size + 1, 6, none⟩ = some (.float .f64 x) := BZ.out.cell rfl
      have r7 : W.on.cell? ⟨w.heap.size + 1, 7, none⟩ = some (.int .i64 id) := BZ.out.cell rfl
      have r8 : W.on.cell? ⟨w.heap.size + 1, 8, none⟩ = some (.slice va i vc) := BZ.out.cell rfl
      clear q0 q1 q2 q3 q4 q5 q6 q7 q8
      have HCe : Hid ((⟨view, slot, ⟨c, s, ⟨k, key, x, id⟩⟩, sigsOf ms ts⟩ : Ct).cells va vc = [.int .i64 view, .int .i64 slot, .int .i64 c, .int .i64 s, .int .i64 k, .string key, .float .f64 x, .int .i64 id, .slice va i vc]) := Go.Lib.hid (by unfold Ct.cells; rw [show (sigsOf ms ts).length = i by simp [sigsOf]; exact HN.out.symm])
      exact bodyPost_ret (v := .agg #[.int .i64 view, .int .i64 slot, .int .i64 c, .int .i64 s, .int .i64 k, .string key, .float .f64 x, .int .i64 id, .slice va i vc]) (by simp [results, Try.results29, go_sem, r0, r1, r2, r3, r4, r5, r6, r7, r8]) rfl
        ⟨va, vc, by rw [HTS.out, HCe.out], by rw [HTS.out]; exact HVS.out.ext W.ext (fun b o e => fun hq => by
          have hb := HO.out.lt b (by rw [e]; rfl)
          unfold One at hq; omega), Ext.fromNon (Nat.le_refl _) (by (repeat (first | with_reducible exact Ext.refl _ _ | assumption | with_reducible refine Ext.upN ?_ | with_reducible refine Ext.alloc ?_ _ | with_reducible refine Ext.upA (by assumption) ?_ | with_reducible refine Ext.upW ?_ | with_reducible refine Ext.drew ?_ | with_reducible refine Ext.drewN ?_ _ | with_reducible refine Ext.upF ?_ | with_reducible refine Ext.upFF (by first | omega | simp) ?_ | with_reducible refine Ext.setCellsF _ _ _ (by first | omega | simp) ?_ | with_reducible refine Ext.setCellF _ _ _ (by first | omega | simp) ?_ | with_reducible refine Ext.upFN (by first | omega | simp) ?_ | with_reducible refine Ext.up1F (by first | omega | simp) ?_ | with_reducible refine Ext.up1N (by first | omega | simp) ?_ | with_reducible refine Ext.setCell ?_ (.inr (by first | omega | simp)) _ | refine Ext.alloc ?_ _ | refine Ext.setCellF _ _ _ (by first | omega | simp) ?_ | refine Ext.setCell ?_ (.inr (by first | omega | simp)) _))), fun b o e => by have hb := HO.out.lt b (by rw [e]; rfl); omega⟩
theorem law16_cert (epoch view slot c s k : Int) (key : ByteArray) (x : Nat) (id : Int) (he : I64 epoch) (hv : I64 view) (hsl : I64 slot) (hr : ReqOk ⟨c, s, ⟨k, key, x, id⟩⟩) (ma : Option Addr) (mcap : Nat) (ms : List Int) (hml : ms.length ≤ 1000000) (w : World) (h : Ints w ma mcap ms) :
    Calls Try.prog 29 #[.int .i64 epoch, .int .i64 view, .int .i64 slot, .agg #[.int .i64 c, .int .i64 s, .int .i64 k, .string key, .float .f64 x, .int .i64 id], .slice ma ms.length mcap] w fun e w' =>
    ∃ sa scap, e = .returned (.agg ((⟨view, slot, ⟨c, s, ⟨k, key, x, id⟩⟩, sigsOf ms (prepS epoch view slot ⟨c, s, ⟨k, key, x, id⟩⟩)⟩ : Ct).cells sa scap).toArray) ∧ Sigs w' sa scap (sigsOf ms (prepS epoch view slot ⟨c, s, ⟨k, key, x, id⟩⟩)) ∧ Ext Non w w' :=
  (law16_certF epoch view slot c s k key x id he hv hsl hr ma mcap ms hml w h).mono fun _ _ ⟨sa, scap, a, b, c, _⟩ => ⟨sa, scap, a, b, c⟩
end Go.Proofs.Ytakbkpklfihfiaa
