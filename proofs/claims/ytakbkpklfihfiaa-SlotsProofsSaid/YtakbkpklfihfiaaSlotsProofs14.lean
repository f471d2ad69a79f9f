/- The law SlotsProofs: the walk. -/
import Derived.Test.YtakbkpklfihfiaaSlotsI2
import Derived.Test.YtakbkpklfihfiaaJoinE
import Derived.Test.YtakbkpklfihfiaaJoinB
namespace Go.Proofs.Ytakbkpklfihfiaa
open Go.RowKit Go.Lib F64
set_option linter.unusedSimpArgs false
set_option linter.unusedVariables false
attribute [local go_sem] run_store_float
attribute [local go_sem low] EW.cellN EW.frozN alloc_cell_or alloc_froz_or EW.cellF EW.frozF EW.cell1 EW.froz1
attribute [local go_sem] relAt relUpon
/-- The views that were seen, by slots of the epoch. -/
def seenRow (ws : Nat → Int) : List Value := [.int .i64 (ws 0), .int .i64 (ws 1), .int .i64 (ws 2), .int .i64 (ws 3), .int .i64 (ws 4)]
def SeenI (g : Lo) (ws : Nat → Int) : Prop := ∀ j, j < 4 → (∀ c, (g.sl j).cert = some c → ws (j + 1) ≤ c.view) ∧ ((g.sl j).cert = none → ws (j + 1) = 0)
theorem SeenI.step {g g' : Lo} {ws : Nat → Int} (h : SeenI g ws) (x : LoLe g g') (hi : LoI g') : SeenI g' ws := fun j hj => by
  refine ⟨fun c hc => ?_, fun hn => ?_⟩
  · cases h0 : (g.sl j).cert with
    | none => rw [(h j hj).2 h0]; exact ((hi.sl j hj).ce c hc).2.1
    | some c0 =>
      obtain ⟨c', e1, e2⟩ := (x.sl j).ce c0 h0
      rw [hc] at e1
      injection e1 with e1
      subst e1
      exact Int.le_trans ((h j hj).1 c0 h0) e2
  · cases h0 : (g.sl j).cert with
    | none => exact (h j hj).2 h0
    | some c0 =>
      obtain ⟨c', e1, _⟩ := (x.sl j).ce c0 h0
      rw [hn] at e1; cases e1
theorem SeenI.put {g : Lo} {ws : Nat → Int} (h : SeenI g ws) {j : Nat} {c : Ct} (hc : (g.sl j).cert = some c) : SeenI g (fun n => if n = j + 1 then c.view else ws n) := fun i hi => by
  by_cases e : i = j
  · subst e
    refine ⟨fun c' hc' => ?_, fun hn => ?_⟩
    · rw [hc] at hc'; injection hc' with hc'; subst hc'
      simp
    · rw [hc] at hn; cases hn
  · simp only [show ¬ i + 1 = j + 1 by omega, if_false]
    exact h i hi
theorem seen_no_str {w : World} {k : Nat} {ws : Nat → Int} {t : TypeId} (h : Bx w k (seenRow ws) t) (i : Nat) (s : ByteArray) : w.cell? ⟨k, i, none⟩ ≠ some (.string s) := by
  intro e
  have e2 : (seenRow ws)[i]? = some (.string s) := by
    have := h.h
    simp [World.cell?, this] at e
    simpa using e
  unfold seenRow at e2
  match i, e2 with
  | 0, e2 => simp at e2
  | 1, e2 => simp at e2
  | 2, e2 => simp at e2
  | 3, e2 => simp at e2
  | 4, e2 => simp at e2
  | i + 5, e2 => simp at e2
theorem Sigs.apart {w w' : World} {k : Nat} {ws : Nat → Int} {t : TypeId} {a : Option Addr} {cap : Nat} {l : List Sg} (h : Sigs w a cap l) (hB : Bx w k (seenRow ws) t) (x : Ext (One k) w w') : Sigs w' a cap l :=
  ⟨h.le, h.small, fun j hj => by
    obtain ⟨b, o, e, hb, c0, c1, r⟩ := h.at_ j hj
    have hn : ¬ One k b := fun e => by
      have e : b = k := e
      subst e
      exact seen_no_str hB _ _ c1
    exact ⟨b, o, e, Nat.lt_of_lt_of_le hb x.size, (x.cell (p := ⟨b, o + j * 2, none⟩) hb hn).trans c0, (x.cell (p := ⟨b, o + j * 2 + 1, none⟩) hb hn).trans c1, r⟩⟩
theorem Certs.apart {w w' : World} {k : Nat} {ws : Nat → Int} {t : TypeId} {a : Option Addr} {cap : Nat} {l : List Ct} (h : Certs w a cap l) (hB : Bx w k (seenRow ws) t) (x : Ext (One k) w w') : Certs w' a cap l :=
  ⟨h.le, h.small, fun j hj => by
    obtain ⟨b, o, sa, scap, e, hb, c, hs, r⟩ := h.at_ j hj
    have hn : ¬ One k b := fun e => by
      have e : b = k := e
      subst e
      exact seen_no_str hB _ _ (c 5 _ rfl)
    exact ⟨b, o, sa, scap, e, Nat.lt_of_lt_of_le hb x.size, fun i v hv => (x.cell (p := ⟨b, o + j * 9 + i, none⟩) hb hn).trans (c i v hv), hs.apart hB x, r⟩⟩
theorem seen_get (ws : Nat → Int) {m : Nat} (h : m < 5) : (seenRow ws)[m]? = some (.int .i64 (ws m)) := by
  have h4 : m = 0 ∨ m = 1 ∨ m = 2 ∨ m = 3 ∨ m = 4 := by omega
  rcases h4 with rfl | rfl | rfl | rfl | rfl <;> rfl
theorem seen_set (ws : Nat → Int) (v : Int) {m : Nat} (h : m < 5) : (seenRow ws).set m (.int .i64 v) = seenRow (fun n => if n = m then v else ws n) := by
  have h4 : m = 0 ∨ m = 1 ∨ m = 2 ∨ m = 3 ∨ m = 4 := by omega
  rcases h4 with rfl | rfl | rfl | rfl | rfl <;> rfl
def lastN (ep : Int) (cs : List Ct) (k : Nat) : Int := if k = 0 then 0 else (ctAt cs (k - 1)).slot - 4 * ep
theorem last_lt {g : Lo} (h : LoI g) {k : Nat} (hk : k < (certsG g).length) : lastN g.ep (certsG g) k < (ctAt (certsG g) k).slot - 4 * g.ep := by
  unfold lastN
  split
  · have hm : ctAt (certsG g) k ∈ certsG g := by rw [ctAt_get hk]; exact List.getElem_mem hk
    obtain ⟨j, _, _, e, _⟩ := h.cert hm
    rw [e]; omega
  · have := List.pairwise_iff_getElem.1 h.rise (k - 1) k (by omega) hk (by omega)
    rw [ctAt_get hk, ctAt_get (show k - 1 < (certsG g).length by omega)]
    omega
theorem last_next (ep : Int) (cs : List Ct) (k : Nat) : lastN ep cs (k + 1) = (ctAt cs k).slot - 4 * ep := by unfold lastN; simp
theorem info_certP : (Try.prog.info? 52).map (·.size) = some 9 := by kernel_rfl
theorem view_ext (b : Nat) (G : Nat → Prop) (g : Lo) (w : World) (h : LoW w b G g) : Calls Try.prog 41 #[.pointer (some ⟨b, 0, none⟩)] w fun e w' => e = .returned (.int .i64 g.view) ∧ Ext Non w w' :=
  (log_View b G g w h).mono fun e w' ⟨he, hx⟩ => ⟨he, by subst hx; exact Ext.refl _ _⟩
theorem make5 (w : World) : (Instr.makeSlice 32 (.int .i64 5) (.int .i64 5)).run Try.prog w = .ok (.slice (some ⟨w.heap.size, 0, none⟩) 5 5) (w.alloc (.cells (seenRow (fun _ => 0)).toArray 3)) := by
  obtain ⟨i, hi0, hi1, hi2, hi3⟩ := info_parts info_int
  rw [run_makeSlice w 32 3 i _ Try.underlying32 hi0 hi1 .i64 .i64 5 5 (by omega) (by omega) (by rw [hi2]; decide) (by rw [hi3]; decide) (by omega), hi2]
  have h : madeCells (Value.int IntKind.i64 0).cells (Int.toNat 5 * 1) = (seenRow (fun _ => 0)).toArray := by
    first | rfl | kernel_rfl | (unfold madeCells seenRow; simp [Value.cells, Array.range_succ]) | (unfold madeCells seenRow; apply Array.ext <;> simp [Value.cells])
  rw [h]
  rfl
attribute [local go_sem] make5
set_option maxHeartbeats 4000000 in
set_option maxRecDepth 100000 in
theorem walk_SlotsProofs (ep : Int) (hie : I64 ep) (a : Option Addr) (cap : Nat) (xs : List Int) (pa : Option Addr) (pcap : Nat) (l : List Stp) (w : World) (hi : Ints w a cap xs) (hs : Stps w pa pcap l) :
    Calls Try.prog 13 #[.agg #[.int .i64 ep, .slice a xs.length cap], .slice pa l.length pcap] w fun e w' => e = .returned (.bool true) ∧ Ext Non w w' := by
  have HI := Go.Lib.hid hi; have HS := Go.Lib.hid hs
  have hsm := hs.small; have hsl := hs.le
  have HE := Go.Lib.hid hie
  clear hi hs hie
  by_cases hc : confB ep xs = true
  · have HC := Go.Lib.hid hc; clear hc
    go_enter Try.func13, Try.ntmps13
    go_wp2_with fail
    have B0 := Go.Lib.hid (Bx.newAt w [.int .i64 ep, .slice a xs.length cap] 34 _ rfl)
    refine Calls.ew (law14_lives _) ?_
    rintro e x1 rfl
    have X1 : Ext Non w x1.on := by (repeat (first | with_reducible exact Ext.refl _ _ | assumption | with_reducible refine Ext.upN ?_ | with_reducible refine Ext.alloc ?_ _ | with_reducible refine Ext.upA (by assumption) ?_ | with_reducible refine Ext.upW ?_ | with_reducible refine Ext.drew ?_ | with_reducible refine Ext.drewN ?_ _ | with_reducible refine Ext.upF ?_ | with_reducible refine Ext.upFF (by first | omega | simp) ?_ | with_reducible refine Ext.setCellsF _ _ _ (by first | omega | simp) ?_ | with_reducible refine Ext.setCellF _ _ _ (by first | omega | simp) ?_ | with_reducible refine Ext.upFN (by first | omega | simp) ?_ | with_reducible refine Ext.up1F (by first | omega | simp) ?_ | with_reducible refine Ext.up1N (by first | omega | simp) ?_ | with_reducible refine Ext.setCell ?_ (.inr (by first | omega | simp)) _ | refine Ext.alloc ?_ _ | refine Ext.setCellF _ _ _ (by first | omega | simp) ?_ | refine Ext.setCell ?_ (.inr (by first | omega | simp)) _))
    have B1 := Go.Lib.hid (B0.out.extN x1.ext)
    clear B0
    go_wp2_with fail
    refine (slots_New ep a cap xs HC.out _ (HI.out.extN X1)).mono ?_
    rintro e _ ⟨b, G, rfl, hL, hF, hx⟩
    obtain ⟨x2, rfl⟩ := hx.ew
    have B2 := Go.Lib.hid (B1.out.extN x2.ext)
    have HL := Go.Lib.hid hL
    have hlt1 := B1.out.lt
    have X2 : Ext Non w x2.on := by (repeat (first | with_reducible exact Ext.refl _ _ | assumption | with_reducible refine Ext.upN ?_ | with_reducible refine Ext.alloc ?_ _ | with_reducible refine Ext.upA (by assumption) ?_ | with_reducible refine Ext.upW ?_ | with_reducible refine Ext.drew ?_ | with_reducible refine Ext.drewN ?_ _ | with_reducible refine Ext.upF ?_ | with_reducible refine Ext.upFF (by first | omega | simp) ?_ | with_reducible refine Ext.setCellsF _ _ _ (by first | omega | simp) ?_ | with_reducible refine Ext.setCellF _ _ _ (by first | omega | simp) ?_ | with_reducible refine Ext.upFN (by first | omega | simp) ?_ | with_reducible refine Ext.up1F (by first | omega | simp) ?_ | with_reducible refine Ext.up1N (by first | omega | simp) ?_ | with_reducible refine Ext.setCell ?_ (.inr (by first | omega | simp)) _ | refine Ext.alloc ?_ _ | refine Ext.setCellF _ _ _ (by first | omega | simp) ?_ | refine Ext.setCell ?_ (.inr (by first | omega | simp)) _))
    have hF2 : ∀ j, LoF b G j → w.heap.size < j := fun j hj => by have := hF j hj; omega
    clear hL hx B1
    go_wp2_with fail
    have HFW : Hid (∀ j, LoF b G j → w.heap.size < j ∧ j < x2.on.heap.size) := Go.Lib.hid (fun j hj => ⟨hF2 j hj, by
      rcases hj with rfl | hj
      · exact HL.out.bl
      · exact HL.out.lt j hj⟩)
    have B3 := Go.Lib.hid (Bx.newAt x2.on (seenRow (fun _ => 0)) 3 _ rfl)
    have hk2 : w.heap.size < x2.on.heap.size := by have := X2.size; have := B2.out.lt; omega
    generalize hkw : x2.on.heap.size = kw at *
    have HL3 := Go.Lib.hid (HL.out.extN ((Ext.refl Non _).alloc (.cells (seenRow (fun _ => 0)).toArray 3)))
    have B4 := Go.Lib.hid (B2.out.extN ((Ext.refl Non _).alloc (.cells (seenRow (fun _ => 0)).toArray 3)))
    have X3 : Ext Non w (x2.on.alloc (.cells (seenRow (fun _ => 0)).toArray 3)) := by (repeat (first | with_reducible exact Ext.refl _ _ | assumption | with_reducible refine Ext.upN ?_ | with_reducible refine Ext.alloc ?_ _ | with_reducible refine Ext.upA (by assumption) ?_ | with_reducible refine Ext.upW ?_ | with_reducible refine Ext.drew ?_ | with_reducible refine Ext.drewN ?_ _ | with_reducible refine Ext.upF ?_ | with_reducible refine Ext.upFF (by first | omega | simp) ?_ | with_reducible refine Ext.setCellsF _ _ _ (by first | omega | simp) ?_ | with_reducible refine Ext.setCellF _ _ _ (by first | omega | simp) ?_ | with_reducible refine Ext.upFN (by first | omega | simp) ?_ | with_reducible refine Ext.up1F (by first | omega | simp) ?_ | with_reducible refine Ext.up1N (by first | omega | simp) ?_ | with_reducible refine Ext.setCell ?_ (.inr (by first | omega | simp)) _ | refine Ext.alloc ?_ _ | refine Ext.setCellF _ _ _ (by first | omega | simp) ?_ | refine Ext.setCell ?_ (.inr (by first | omega | simp)) _))
    obtain ⟨x3, hx3⟩ := X3.ew
    rw [hx3] at HL3 B3 B4 ⊢
    clear hx3 X3 HL B2 hF2 hlt1 hF X1
    go_loopg [8, 9, 10, 11, 12, 13, 14, 15] l.length (fun n iv i9 i10 i11 i12 i13 i14 i15 wr => ∃ (i : Nat) (g : Lo) (G : Nat → Prop) (ws : Nat → Int) (z : EW Non w), i ≤ l.length ∧ n = l.length - i ∧ iv = .int .i64 i ∧ wr = z.on ∧ Hid (LoW wr b G g) ∧ Hid (LoI g ∧ g.ep = ep ∧ g.mem = xs) ∧ Hid (∀ j, LoF b G j → w.heap.size < j ∧ j ≠ kw) ∧ Hid (Bx wr w.heap.size [.int .i64 ep, .slice a xs.length cap] 34) ∧ Hid (Bx wr kw (seenRow ws) 3) ∧ Hid (SeenI g ws))
    case atStart => exact ⟨0, newLo ep xs, G, fun _ => 0, x3, Nat.zero_le _, rfl, rfl, rfl, HL3, Go.Lib.hid ⟨newLo_inv HC.out, rfl, rfl⟩, Go.Lib.hid (fun j hj => ⟨(HFW.out j hj).1, by have := (HFW.out j hj).2; omega⟩), B4, B3, Go.Lib.hid (fun j _ => ⟨fun c hc => (by cases hc), fun _ => rfl⟩)⟩
    case round =>
      clear HL3 B3 B4 HFW
      obtain ⟨i, g, G, ws, z, hi, hn, rfl, rfl, HL, HV, HF, BC, BS, HW⟩ := hrel
      have HN := Go.Lib.hid hn; clear hn
      by_cases hlt : i < l.length
      · obtain ⟨pb, po, rfl, hpb, pk, pok⟩ := HS.out.at_ i hlt
        generalize stAt l i = o at *
        have HO := Go.Lib.hid pok
        obtain ⟨k0, k1, k2, k3, kc, ks, kk, key, kb, kid, kw5⟩ := o
        have q0 : w.cell? ⟨pb, po + i * 11, none⟩ = some (.int .i64 k0) := pk 0 _ rfl
        have q1 : w.cell? ⟨pb, po + i * 11 + 1, none⟩ = some (.int .i64 k1) := pk 1 _ rfl
        have q2 : w.cell? ⟨pb, po + i * 11 + 2, none⟩ = some (.int .i64 k2) := pk 2 _ rfl
        have q3 : w.cell? ⟨pb, po + i * 11 + 3, none⟩ = some (.int .i64 k3) := pk 3 _ rfl
        have q4 : w.cell? ⟨pb, po + i * 11 + 4, none⟩ = some (.int .i64 kc) := pk 4 _ rfl
        have q5 : w.cell? ⟨pb, po + i * 11 + 5, none⟩ = some (.int .i64 ks) := pk 5 _ rfl
        have q6 : w.cell? ⟨pb, po + i * 11 + 6, none⟩ = some (.int .i64 kk) := pk 6 _ rfl
        have q7 : w.cell? ⟨pb, po + i * 11 + 7, none⟩ = some (.string key) := pk 7 _ rfl
        have q8 : w.cell? ⟨pb, po + i * 11 + 8, none⟩ = some (.int .u64 kb) := pk 8 _ rfl
        have q9 : w.cell? ⟨pb, po + i * 11 + 9, none⟩ = some (.int .i64 kid) := pk 9 _ rfl
        have q10 : w.cell? ⟨pb, po + i * 11 + 10, none⟩ = some (.bool kw5) := pk 10 _ rfl
        have qc : z.on.cell? ⟨w.heap.size, 0, none⟩ = some (.int .i64 ep) := BC.out.cell rfl
        clear pk pok
        go_upto_region 10 with fail
        apply wp_region_rel_tail 7 (relR [Mo.is _, Mo.is _, Mo.is _, Mo.is _, Mo.is _, Mo.is _, Mo.is _]) (by kernel_rfl) (by kernel_rfl) (by kernel_rfl) (by kernel_rfl) (by kernel_rfl) (by decide) (by kernel_rfl) (relR_mono _) (StepD.all ?st4) ?q4
        case st4 =>
          refine ⟨?_, ?_, ?_, ?_, ?_, ?_, ?_, trivial⟩
          · intro a' w' hx hs hd
            obtain ⟨y, rfl⟩ := hx.ew
            have e5 : a'.tmps[5]?.getD undef = _ := hs 5 rfl
            simp only [List.getElem?_toArray, List.getElem?_cons_succ, List.getElem?_cons_zero, Option.getD_some, Array.getElem?_eq_some_iff] at e5
            refine .inl ⟨rfl, ?_⟩
            clear hs hd hx
            go_simp
            exact ⟨Ext.refl _ _, rfl⟩
          · intro a' w' hx hs hd
            obtain ⟨y, rfl⟩ := hx.ew
            have e2 : a'.tmps[2]?.getD undef = _ := hs 2 rfl
            simp only [List.getElem?_toArray, List.getElem?_cons_succ, List.getElem?_cons_zero, Option.getD_some, Array.getElem?_eq_some_iff] at e2
            refine .inl ⟨rfl, ?_⟩
            clear hs hd hx
            go_simp
            exact ⟨Ext.refl _ _, rfl⟩
          · intro a' w' hx hs hd
            obtain ⟨y, rfl⟩ := hx.ew
            have e35 : a'.tmps[35]?.getD undef = _ := hd 1 35 rfl rfl
            refine .inl ⟨rfl, ?_⟩
            clear hs hd hx
            go_simp
            exact ⟨Ext.refl _ _, rfl⟩
          · intro a' w' hx hs hd
            obtain ⟨y, rfl⟩ := hx.ew
            have e1 : a'.tmps[1]?.getD undef = _ := hs 1 rfl
            simp only [List.getElem?_toArray, List.getElem?_cons_succ, List.getElem?_cons_zero, Option.getD_some, Array.getElem?_eq_some_iff] at e1
            refine .inl ⟨rfl, ?_⟩
            clear hs hd hx
            go_simp
            exact ⟨Ext.refl _ _, rfl⟩
          · intro a' w' hx hs hd
            obtain ⟨y, rfl⟩ := hx.ew
            have e8 : a'.tmps[8]?.getD undef = _ := hs 8 rfl
            simp only [List.getElem?_toArray, List.getElem?_cons_succ, List.getElem?_cons_zero, Option.getD_some, Array.getElem?_eq_some_iff] at e8
            refine .inl ⟨rfl, ?_⟩
            clear hs hd hx
            go_simp
            exact ⟨Ext.refl _ _, rfl⟩
          · intro a' w' hx hs hd
            obtain ⟨y, rfl⟩ := hx.ew
            have e37 : a'.tmps[37]?.getD undef = _ := hd 3 37 rfl rfl
            have e38 : a'.tmps[38]?.getD undef = _ := hd 4 38 rfl rfl
            refine .inl ⟨rfl, ?_⟩
            clear hs hd hx
            go_simp
            exact ⟨Ext.refl _ _, rfl⟩
          · intro a' w' hx hs hd
            obtain ⟨y, rfl⟩ := hx.ew
            have e39 : a'.tmps[39]?.getD undef = _ := hd 5 39 rfl rfl
            refine .inl ⟨rfl, ?_⟩
            clear hs hd hx
            go_simp
            exact ⟨Ext.refl _ _, rfl⟩
        case' q4 =>
          intro vs w' hx hRR
          obtain ⟨x4, rfl⟩ := hx.ew
          have q0 : vs 0 = _ := hRR 0 (by decide)
          have q1 : vs 1 = _ := hRR 1 (by decide)
          have q2 : vs 2 = _ := hRR 2 (by decide)
          have q3 : vs 3 = _ := hRR 3 (by decide)
          have q4 : vs 4 = _ := hRR 4 (by decide)
          have q5 : vs 5 = _ := hRR 5 (by decide)
          have q6 : vs 6 = _ := hRR 6 (by decide)
          clear hRR hx
          simp only [putAll, List.take_succ_cons, List.take_zero, List.drop_succ_cons, List.drop_zero, Act.put, List.setIfInBounds_toArray, List.set_cons_zero, List.set_cons_succ, Nat.reduceAdd, Nat.zero_add]
          simp only [q0, q1, q2, q3, q4, q5, q6]
          clear q0 q1 q2 q3 q4 q5 q6 vs
        go_wp2_with fail
        refine (law14_call b G g ep HE.out ⟨k0, k1, k2, k3, kc, ks, kk, key, kb, kid, kw5⟩ HO.out _ (HL.out.extN (by (repeat (first | with_reducible exact Ext.refl _ _ | assumption | with_reducible refine Ext.upN ?_ | with_reducible refine Ext.alloc ?_ _ | with_reducible refine Ext.upA (by assumption) ?_ | with_reducible refine Ext.upW ?_ | with_reducible refine Ext.drew ?_ | with_reducible refine Ext.drewN ?_ _ | with_reducible refine Ext.upF ?_ | with_reducible refine Ext.upFF (by first | omega | simp) ?_ | with_reducible refine Ext.setCellsF _ _ _ (by first | omega | simp) ?_ | with_reducible refine Ext.setCellF _ _ _ (by first | omega | simp) ?_ | with_reducible refine Ext.upFN (by first | omega | simp) ?_ | with_reducible refine Ext.up1F (by first | omega | simp) ?_ | with_reducible refine Ext.up1N (by first | omega | simp) ?_ | with_reducible refine Ext.setCell ?_ (.inr (by first | omega | simp)) _ | refine Ext.alloc ?_ _ | refine Ext.setCellF _ _ _ (by first | omega | simp) ?_ | refine Ext.setCell ?_ (.inr (by first | omega | simp)) _))))).mono ?_
        rintro e _ ⟨rfl, G2, hL2, hG2, hx2⟩
        have X4 : Ext Non w x4.on := by (repeat (first | with_reducible exact Ext.refl _ _ | assumption | with_reducible refine Ext.upN ?_ | with_reducible refine Ext.alloc ?_ _ | with_reducible refine Ext.upA (by assumption) ?_ | with_reducible refine Ext.upW ?_ | with_reducible refine Ext.drew ?_ | with_reducible refine Ext.drewN ?_ _ | with_reducible refine Ext.upF ?_ | with_reducible refine Ext.upFF (by first | omega | simp) ?_ | with_reducible refine Ext.setCellsF _ _ _ (by first | omega | simp) ?_ | with_reducible refine Ext.setCellF _ _ _ (by first | omega | simp) ?_ | with_reducible refine Ext.upFN (by first | omega | simp) ?_ | with_reducible refine Ext.up1F (by first | omega | simp) ?_ | with_reducible refine Ext.up1N (by first | omega | simp) ?_ | with_reducible refine Ext.setCell ?_ (.inr (by first | omega | simp)) _ | refine Ext.alloc ?_ _ | refine Ext.setCellF _ _ _ (by first | omega | simp) ?_ | refine Ext.setCell ?_ (.inr (by first | omega | simp)) _))
        have BC4 := BC.out.extN x4.ext
        have BS4 := BS.out.extN x4.ext
        have hkl : kw < x4.on.heap.size := BS4.lt
        have BC5 := Go.Lib.hid (BC4.ext hx2 (fun e => by have := (HF.out _ e).1; omega))
        have BS5 := Go.Lib.hid (BS4.ext hx2 (fun e => absurd rfl (HF.out _ e).2))
        obtain ⟨x5, hx5⟩ := (X4.own hx2 (fun k e => by have := (HF.out k e).1; omega)).ew
        subst hx5
        obtain ⟨st1, st2⟩ := step_ok HV.out.1 ep ⟨k0, k1, k2, k3, kc, ks, kk, key, kb, kid, kw5⟩
        have HW5 := Go.Lib.hid (HW.out.step st2 st1)
        have HV5 := Go.Lib.hid (And.intro st1 (And.intro (st2.ep.trans HV.out.2.1) (st2.mem.trans HV.out.2.2)))
        have HL5 := Go.Lib.hid hL2
        have hx4s := X4.size
        have HF5 : Hid (∀ j, LoF b G2 j → w.heap.size < j ∧ j ≠ kw) := Go.Lib.hid (fun j hj => by
          rcases hj with rfl | hj
          · exact HF.out _ (.inl rfl)
          · rcases hG2 j hj with q | q
            · exact HF.out _ (.inr q)
            · exact ⟨by have := BC4.lt; omega, by omega⟩)
        clear hL2 hG2 hx2 BC4 BS4 hkl st1 st2 HL HF BC BS HW HV hx4s qc q0 q1 q2 q3 q4 q5 q6 q7 q8 q9 q10
        generalize stepE g ep _ = er at *
        generalize stepG g ep _ = g2 at *
        have hsb := HV5.out.1.sigsB
        have hvw := HV5.out.1.vw
        go_wp2_with fail
        refine (log_Certs b G2 g2 _ HL5.out hsb).mono ?_
        rintro e _ ⟨ca, cc, rfl, hC, hx⟩
        obtain ⟨x6, rfl⟩ := hx.ew
        have HCt := Go.Lib.hid hC
        have hcl := hC.le; have hcs := hC.small
        have HL6 := Go.Lib.hid (HL5.out.extN x6.ext)
        have BC6 := Go.Lib.hid (BC5.out.extN x6.ext)
        have BS6 := Go.Lib.hid (BS5.out.extN x6.ext)
        clear hC hx HL5 BC5 BS5 hsb
        go_wp2_with fail
        have X6 : Ext Non w x6.on := by (repeat (first | with_reducible exact Ext.refl _ _ | assumption | with_reducible refine Ext.upN ?_ | with_reducible refine Ext.alloc ?_ _ | with_reducible refine Ext.upA (by assumption) ?_ | with_reducible refine Ext.upW ?_ | with_reducible refine Ext.drew ?_ | with_reducible refine Ext.drewN ?_ _ | with_reducible refine Ext.upF ?_ | with_reducible refine Ext.upFF (by first | omega | simp) ?_ | with_reducible refine Ext.setCellsF _ _ _ (by first | omega | simp) ?_ | with_reducible refine Ext.setCellF _ _ _ (by first | omega | simp) ?_ | with_reducible refine Ext.upFN (by first | omega | simp) ?_ | with_reducible refine Ext.up1F (by first | omega | simp) ?_ | with_reducible refine Ext.up1N (by first | omega | simp) ?_ | with_reducible refine Ext.setCell ?_ (.inr (by first | omega | simp)) _ | refine Ext.alloc ?_ _ | refine Ext.setCellF _ _ _ (by first | omega | simp) ?_ | refine Ext.setCell ?_ (.inr (by first | omega | simp)) _))
        obtain ⟨y6, hy6⟩ := X6.ew
        rw [hy6] at HCt HL6 BC6 BS6 ⊢
        clear hy6 X6 X4
        go_loopg [11, 10, 12, 13, 14, 15] (certsG g2).length (fun n kv lv i12 i13 i14 i15 wr => ∃ (k : Nat) (ws : Nat → Int) (z : EW Non w), k ≤ (certsG g2).length ∧ n = (certsG g2).length - k ∧ kv = .int .i64 k ∧ (∃ lx, lx = lastN ep (certsG g2) k ∧ lv = .int .i64 lx) ∧ wr = z.on ∧ Hid (LoW wr b G2 g2) ∧ Hid (Bx wr w.heap.size [.int .i64 ep, .slice a xs.length cap] 34) ∧ Hid (Bx wr kw (seenRow ws) 3) ∧ Hid (SeenI g2 ws) ∧ Hid (Certs wr ca cc (certsG g2)))
        case atStart => exact ⟨0, ws, y6, Nat.zero_le _, rfl, rfl, ⟨0, rfl, rfl⟩, rfl, HL6, BC6, BS6, HW5, HCt⟩
        case round =>
          clear HL6 BC6 BS6 HW5 HCt
          obtain ⟨k, ws, z, hk, hkn, rfl, ⟨lx, hlx, rfl⟩, rfl, HL, BC, BS, HW, HCt⟩ := hrel
          have HKN := Go.Lib.hid hkn; clear hkn
          by_cases hkl : k < (certsG g2).length
          · obtain ⟨cb, co, sa, scap, rfl, hcb, ck, hsg, hro, hvi, hsi⟩ := HCt.out.at_ k hkl
            have hmem : ctAt (certsG g2) k ∈ certsG g2 := by rw [ctAt_get hkl]; exact List.getElem_mem hkl
            obtain ⟨j, hj4, hce, hsl2, hv0, hv1, hask, hpv⟩ := HV5.out.1.cert hmem
            have hpe := HV5.out.1.prepE hmem
            have hll := last_lt HV5.out.1 hkl
            have HNx := Go.Lib.hid (last_next ep (certsG g2) k)
            rw [HV5.out.2.1] at hsl2 hpv hpe hll
            rw [HV5.out.2.2] at hpv
            rw [← hlx] at hll
            have HSP := Go.Lib.hid (HW.out.put hce)
            have hws := (HW.out j hj4).1 _ hce
            generalize hct : ctAt (certsG g2) k = ct at *
            obtain ⟨cv, cs, ⟨rc, rs, ⟨rk, rkey, rx, rid⟩⟩, sl⟩ := ct
            clear hct hce hmem hlx
            have hep := (conf_facts HC.out)
            have he0 := hep.1; have he1 := hep.2.1
            clear hep
            obtain ⟨m, hm⟩ : ∃ m, m = j + 1 := ⟨_, rfl⟩
            rw [← hm] at hws HSP
            have hm5 : m < 5 := by omega
            have hsl3 : cs = 4 * ep + m := by have : cs = 4 * ep + 1 + j := hsl2; omega
            have HSL := Go.Lib.hid hsl3
            have hw1 : IntKind.i64.wrap (4 * ep) = 4 * ep := IntWalk.i64_in _ (by omega)
            have hw2 : IntKind.i64.wrap (cs - 4 * ep) = (m : Int) := by rw [show cs - 4 * ep = (m : Int) by omega]; exact IntWalk.i64_in _ (by omega)
            have d2 : decide ((m : Int) ≤ lx) = false := decide_eq_false (by have : lx < cs - 4 * ep := hll; omega)
            have d3 : decide (4 < (m : Int)) = false := decide_eq_false (by omega)
            have d4 : decide (g2.view < cv) = false := decide_eq_false (by have : cv ≤ g2.view := hv1; omega)
            have d5 : decide (cv < ws m) = false := decide_eq_false (by have : ws m ≤ cv := hws; omega)
            have HNxt : Hid (lastN ep (certsG g2) (k + 1) = (m : Int)) := Go.Lib.hid (by rw [HNx.out]; show cs - 4 * ep = _; omega)
            have HPV : Hid (provesB ep xs (prepS ep cv cs ⟨rc, rs, ⟨rk, rkey, rx, rid⟩⟩) sl = true) := Go.Lib.hid hpv
            have HPE : Hid (Go.Proofs.Ytakbkpklfihfiaa.prepE ep cv cs ⟨rc, rs, ⟨rk, rkey, rx, rid⟩⟩ = 0) := Go.Lib.hid hpe
            have HSG : Hid (Sigs z.on sa scap sl) := Go.Lib.hid hsg
            have HRO : Hid (ReqOk ⟨rc, rs, ⟨rk, rkey, rx, rid⟩⟩ ∧ I64 cv ∧ I64 cs) := Go.Lib.hid ⟨hro, hvi, hsi⟩
            have z0 : z.on.cell? ⟨cb, co + k * 9, none⟩ = some (.int .i64 cv) := ck 0 _ rfl
            have z1 : z.on.cell? ⟨cb, co + k * 9 + 1, none⟩ = some (.int .i64 cs) := ck 1 _ rfl
            have z2 : z.on.cell? ⟨cb, co + k * 9 + 2, none⟩ = some (.int .i64 rc) := ck 2 _ rfl
            have z3 : z.on.cell? ⟨cb, co + k * 9 + 3, none⟩ = some (.int .i64 rs) := ck 3 _ rfl
            have z4 : z.on.cell? ⟨cb, co + k * 9 + 4, none⟩ = some (.int .i64 rk) := ck 4 _ rfl
            have z5 : z.on.cell? ⟨cb, co + k * 9 + 5, none⟩ = some (.string rkey) := ck 5 _ rfl
            have z6 : z.on.cell? ⟨cb, co + k * 9 + 6, none⟩ = some (.float .f64 rx) := ck 6 _ rfl
            have z7 : z.on.cell? ⟨cb, co + k * 9 + 7, none⟩ = some (.int .i64 rid) := ck 7 _ rfl
            have z8 : z.on.cell? ⟨cb, co + k * 9 + 8, none⟩ = some (.slice sa sl.length scap) := ck 8 _ rfl
            clear hm
            clear ck hsg hro hvi hsi hsl2 hsl3 hv0 hv1 hask hpv hpe hll hws HNx
            have qc : z.on.cell? ⟨w.heap.size, 0, none⟩ = some (.int .i64 ep) := BC.out.cell rfl
            go_upto_region 17 with (refine wpList_store_box rfl 52 _ _ rfl z.on.heap.size _ [.int .i64 cv, .int .i64 cs, .int .i64 rc, .int .i64 rs, .int .i64 rk, .string rkey, .float .f64 rx, .int .i64 rid, .slice sa sl.length scap] _ rfl rfl (Bx.newAt _ [.int .i64 0, .int .i64 0, .int .i64 0, .int .i64 0, .int .i64 0, .string ByteArray.empty, .float .f64 0, .int .i64 0, .slice none 0 0] 52 _ rfl) rfl info_certP (by simp [Value.oneCell']) (fun W hB => ?_); have BZ := Go.Lib.hid hB; clear hB)
            obtain ⟨x7, hx7⟩ := (by (repeat (first | with_reducible exact Ext.refl _ _ | assumption | with_reducible refine Ext.upN ?_ | with_reducible refine Ext.alloc ?_ _ | with_reducible refine Ext.upA (by assumption) ?_ | with_reducible refine Ext.upW ?_ | with_reducible refine Ext.drew ?_ | with_reducible refine Ext.drewN ?_ _ | with_reducible refine Ext.upF ?_ | with_reducible refine Ext.upFF (by first | omega | simp) ?_ | with_reducible refine Ext.setCellsF _ _ _ (by first | omega | simp) ?_ | with_reducible refine Ext.setCellF _ _ _ (by first | omega | simp) ?_ | with_reducible refine Ext.upFN (by first | omega | simp) ?_ | with_reducible refine Ext.up1F (by first | omega | simp) ?_ | with_reducible refine Ext.up1N (by first | omega | simp) ?_ | with_reducible refine Ext.setCell ?_ (.inr (by first | omega | simp)) _ | refine Ext.alloc ?_ _ | refine Ext.setCellF _ _ _ (by first | omega | simp) ?_ | refine Ext.setCell ?_ (.inr (by first | omega | simp)) _)) : Ext Non z.on W.on).ew
            rw [hx7] at BZ ⊢
            clear hx7 W z0 z1 z2 z3 z4 z5 z6 z7 z8
            generalize hkx : z.on.heap.size = kx at *
            have y0 : x7.on.cell? ⟨kx, 0, none⟩ = some (.int .i64 cv) := BZ.out.cell rfl
            have y1 : x7.on.cell? ⟨kx, 1, none⟩ = some (.int .i64 cs) := BZ.out.cell rfl
            have y2 : x7.on.cell? ⟨kx, 2, none⟩ = some (.int .i64 rc) := BZ.out.cell rfl
            have y3 : x7.on.cell? ⟨kx, 3, none⟩ = some (.int .i64 rs) := BZ.out.cell rfl
            have y4 : x7.on.cell? ⟨kx, 4, none⟩ = some (.int .i64 rk) := BZ.out.cell rfl
            have y5 : x7.on.cell? ⟨kx, 5, none⟩ = some (.string rkey) := BZ.out.cell rfl
            have y6' : x7.on.cell? ⟨kx, 6, none⟩ = some (.float .f64 rx) := BZ.out.cell rfl
            have y7 : x7.on.cell? ⟨kx, 7, none⟩ = some (.int .i64 rid) := BZ.out.cell rfl
            have y8 : x7.on.cell? ⟨kx, 8, none⟩ = some (.slice sa sl.length scap) := BZ.out.cell rfl
            have qc1 : z.on.cell? ⟨w.heap.size, 1, none⟩ = some (.slice a xs.length cap) := BC.out.cell rfl
            have qs : z.on.cell? ⟨kw, m, none⟩ = some (.int .i64 (ws m)) := BS.out.cell (seen_get ws hm5)
            go_wp2_with fail
            refine Calls.ew (ref_Prepared ep cv cs rc rs rk rkey rx rid HE.out HRO.out.2.1 HRO.out.2.2 HRO.out.1.c HRO.out.1.s HRO.out.1.k HRO.out.1.id HRO.out.1.x HRO.out.1.key _) ?_
            rintro e x8 rfl
            rw [HPE.out]
            generalize prepS ep cv cs ⟨rc, rs, ⟨rk, rkey, rx, rid⟩⟩ = tx at *
            go_upto_region 19 with fail
            have ZZ : Ext Non w z.on := z.ext
            (refine wp_region_ext_lit (by kernel_rfl) (by kernel_rfl) ?_; (repeat (go_big_quiet_step ((first | (go_at_call 41; exact Calls.ext_of (view_ext b G2 g2 _ (HL.out.extN (by (repeat (first | with_reducible exact Ext.refl _ _ | assumption | with_reducible refine Ext.upN ?_ | with_reducible refine Ext.alloc ?_ _ | with_reducible refine Ext.upA (by assumption) ?_ | with_reducible refine Ext.upW ?_ | with_reducible refine Ext.drew ?_ | with_reducible refine Ext.drewN ?_ _ | with_reducible refine Ext.upF ?_ | with_reducible refine Ext.upFF (by first | omega | simp) ?_ | with_reducible refine Ext.setCellsF _ _ _ (by first | omega | simp) ?_ | with_reducible refine Ext.setCellF _ _ _ (by first | omega | simp) ?_ | with_reducible refine Ext.upFN (by first | omega | simp) ?_ | with_reducible refine Ext.up1F (by first | omega | simp) ?_ | with_reducible refine Ext.up1N (by first | omega | simp) ?_ | with_reducible refine Ext.setCell ?_ (.inr (by first | omega | simp)) _ | refine Ext.alloc ?_ _ | refine Ext.setCellF _ _ _ (by first | omega | simp) ?_ | refine Ext.setCell ?_ (.inr (by first | omega | simp)) _)))))) | (go_at_call 54; exact Calls.ext_of (Calls.mono (terms_Proves ep a cap xs tx sa scap sl _ (HI.out.extN (by (repeat (first | with_reducible exact Ext.refl _ _ | assumption | with_reducible refine Ext.upN ?_ | with_reducible refine Ext.alloc ?_ _ | with_reducible refine Ext.upA (by assumption) ?_ | with_reducible refine Ext.upW ?_ | with_reducible refine Ext.drew ?_ | with_reducible refine Ext.drewN ?_ _ | with_reducible refine Ext.upF ?_ | with_reducible refine Ext.upFF (by first | omega | simp) ?_ | with_reducible refine Ext.setCellsF _ _ _ (by first | omega | simp) ?_ | with_reducible refine Ext.setCellF _ _ _ (by first | omega | simp) ?_ | with_reducible refine Ext.upFN (by first | omega | simp) ?_ | with_reducible refine Ext.up1F (by first | omega | simp) ?_ | with_reducible refine Ext.up1N (by first | omega | simp) ?_ | with_reducible refine Ext.setCell ?_ (.inr (by first | omega | simp)) _ | refine Ext.alloc ?_ _ | refine Ext.setCellF _ _ _ (by first | omega | simp) ?_ | refine Ext.setCell ?_ (.inr (by first | omega | simp)) _)))) (HSG.out.extN (by (repeat (first | with_reducible exact Ext.refl _ _ | assumption | with_reducible refine Ext.upN ?_ | with_reducible refine Ext.alloc ?_ _ | with_reducible refine Ext.upA (by assumption) ?_ | with_reducible refine Ext.upW ?_ | with_reducible refine Ext.drew ?_ | with_reducible refine Ext.drewN ?_ _ | with_reducible refine Ext.upF ?_ | with_reducible refine Ext.upFF (by first | omega | simp) ?_ | with_reducible refine Ext.setCellsF _ _ _ (by first | omega | simp) ?_ | with_reducible refine Ext.setCellF _ _ _ (by first | omega | simp) ?_ | with_reducible refine Ext.upFN (by first | omega | simp) ?_ | with_reducible refine Ext.up1F (by first | omega | simp) ?_ | with_reducible refine Ext.up1N (by first | omega | simp) ?_ | with_reducible refine Ext.setCell ?_ (.inr (by first | omega | simp)) _ | refine Ext.alloc ?_ _ | refine Ext.setCellF _ _ _ (by first | omega | simp) ?_ | refine Ext.setCell ?_ (.inr (by first | omega | simp)) _))))) (fun e w'' ⟨he, hx⟩ => ⟨he.trans (by rw [HPV.out]), hx⟩))))))); refine wpQuiet_nil ?_; intro _ hw'; obtain ⟨xq, hw''⟩ := hw'; subst hw'')
            have XQ : Ext Non z.on xq.on := by (repeat (first | with_reducible exact Ext.refl _ _ | assumption | with_reducible refine Ext.upN ?_ | with_reducible refine Ext.alloc ?_ _ | with_reducible refine Ext.upA (by assumption) ?_ | with_reducible refine Ext.upW ?_ | with_reducible refine Ext.drew ?_ | with_reducible refine Ext.drewN ?_ _ | with_reducible refine Ext.upF ?_ | with_reducible refine Ext.upFF (by first | omega | simp) ?_ | with_reducible refine Ext.setCellsF _ _ _ (by first | omega | simp) ?_ | with_reducible refine Ext.setCellF _ _ _ (by first | omega | simp) ?_ | with_reducible refine Ext.upFN (by first | omega | simp) ?_ | with_reducible refine Ext.up1F (by first | omega | simp) ?_ | with_reducible refine Ext.up1N (by first | omega | simp) ?_ | with_reducible refine Ext.setCell ?_ (.inr (by first | omega | simp)) _ | refine Ext.alloc ?_ _ | refine Ext.setCellF _ _ _ (by first | omega | simp) ?_ | refine Ext.setCell ?_ (.inr (by first | omega | simp)) _))
            have BSq := Go.Lib.hid (BS.out.extN XQ)
            have BCq := Go.Lib.hid (BC.out.extN XQ)
            have HLq := Go.Lib.hid (HL.out.extN XQ)
            have HCq := Go.Lib.hid (HCt.out.extN XQ)
            obtain ⟨xr, hxr⟩ := (ZZ.trans XQ).ew
            rw [hxr] at BSq BCq HLq HCq ⊢
            have qs2 : xr.on.cell? ⟨kw, m, none⟩ = some (.int .i64 (ws m)) := BSq.out.cell (seen_get ws hm5)
            have qv : xr.on.cell? ⟨kx, 0, none⟩ = some (.int .i64 cv) := by
              have := (BZ.out.extN (by (repeat (first | with_reducible exact Ext.refl _ _ | assumption | with_reducible refine Ext.upN ?_ | with_reducible refine Ext.alloc ?_ _ | with_reducible refine Ext.upA (by assumption) ?_ | with_reducible refine Ext.upW ?_ | with_reducible refine Ext.drew ?_ | with_reducible refine Ext.drewN ?_ _ | with_reducible refine Ext.upF ?_ | with_reducible refine Ext.upFF (by first | omega | simp) ?_ | with_reducible refine Ext.setCellsF _ _ _ (by first | omega | simp) ?_ | with_reducible refine Ext.setCellF _ _ _ (by first | omega | simp) ?_ | with_reducible refine Ext.upFN (by first | omega | simp) ?_ | with_reducible refine Ext.up1F (by first | omega | simp) ?_ | with_reducible refine Ext.up1N (by first | omega | simp) ?_ | with_reducible refine Ext.setCell ?_ (.inr (by first | omega | simp)) _ | refine Ext.alloc ?_ _ | refine Ext.setCellF _ _ _ (by first | omega | simp) ?_ | refine Ext.setCell ?_ (.inr (by first | omega | simp)) _)) : Ext Non x7.on xq.on))
              rw [hxr] at this
              exact this.cell rfl
            clear XQ hxr xq y0 y1 y2 y3 y4 y5 y6' y7 y8 qc qc1 qs BZ BS BC HL HCt
            have fz : xr.on.frozen? ⟨kw, m, none⟩ = false := froz_of_heap BSq.out.h
            have XS : Ext (One kw) xr.on (xr.on.setCell ⟨kw, m, none⟩ (.int .i64 cv)) := (Ext.refl _ _).set1 _
            have XSr := Go.Lib.hid XS
            have XW : Ext Non w (xr.on.setCell ⟨kw, m, none⟩ (.int .i64 cv)) := xr.ext.own XS (fun q e => by have : q = kw := e; omega)
            have XWr := Go.Lib.hid XW
            have BSn : Hid (Bx (xr.on.setCell ⟨kw, m, none⟩ (.int .i64 cv)) kw (seenRow (fun n => if n = m then cv else ws n)) 3) := Go.Lib.hid (by rw [← seen_set ws cv hm5]; exact BSq.out.set _)
            have HL2 := Go.Lib.hid (HLq.out.ext XS (fun q hq e => (HF5.out q hq).2 e))
            have BC2 := Go.Lib.hid (BCq.out.ext XS (fun e => by have : w.heap.size = kw := e; omega))
            have HC2 := Go.Lib.hid (HCq.out.apart BSq.out XS)
            clear XS XW
            go_wp2_with fail
            go_roundg ((certsG g2).length - (k + 1))
            case measure => have := HKN.out; omega
            case rel => exact ⟨k + 1, _, ⟨_, XWr.out⟩, by omega, rfl, by go_num, ⟨(m : Int), HNxt.out.symm, rfl⟩, rfl, HL2, BC2, BSn, HSP, HC2⟩
          · go_wp2_with fail
            go_roundg (l.length - (i + 1))
            case measure => have := HN.out; omega
            case rel => exact ⟨i + 1, g2, G2, ws, z, by omega, rfl, by go_num, rfl, HL, HV5, HF5, BC, BS, HW⟩
      · go_wp2
        go_ret
        exact ⟨rfl, by (repeat (first | with_reducible exact Ext.refl _ _ | assumption | with_reducible refine Ext.upN ?_ | with_reducible refine Ext.alloc ?_ _ | with_reducible refine Ext.upA (by assumption) ?_ | with_reducible refine Ext.upW ?_ | with_reducible refine Ext.drew ?_ | with_reducible refine Ext.drewN ?_ _ | with_reducible refine Ext.upF ?_ | with_reducible refine Ext.upFF (by first | omega | simp) ?_ | with_reducible refine Ext.setCellsF _ _ _ (by first | omega | simp) ?_ | with_reducible refine Ext.setCellF _ _ _ (by first | omega | simp) ?_ | with_reducible refine Ext.upFN (by first | omega | simp) ?_ | with_reducible refine Ext.up1F (by first | omega | simp) ?_ | with_reducible refine Ext.up1N (by first | omega | simp) ?_ | with_reducible refine Ext.setCell ?_ (.inr (by first | omega | simp)) _ | refine Ext.alloc ?_ _ | refine Ext.setCellF _ _ _ (by first | omega | simp) ?_ | refine Ext.setCell ?_ (.inr (by first | omega | simp)) _))⟩
  · have HC := Go.Lib.hid (show confB ep xs = false by simpa using hc); clear hc
    go_enter Try.func13, Try.ntmps13
    go_wp2_with fail
    refine Calls.ew (law14_lives _) ?_
    rintro e x1 rfl
    go_wp2_with fail
    refine Calls.ew (slots_New_no ep a cap xs HC.out _ (HI.out.extN (by (repeat (first | with_reducible exact Ext.refl _ _ | assumption | with_reducible refine Ext.upN ?_ | with_reducible refine Ext.alloc ?_ _ | with_reducible refine Ext.upA (by assumption) ?_ | with_reducible refine Ext.upW ?_ | with_reducible refine Ext.drew ?_ | with_reducible refine Ext.drewN ?_ _ | with_reducible refine Ext.upF ?_ | with_reducible refine Ext.upFF (by first | omega | simp) ?_ | with_reducible refine Ext.setCellsF _ _ _ (by first | omega | simp) ?_ | with_reducible refine Ext.setCellF _ _ _ (by first | omega | simp) ?_ | with_reducible refine Ext.upFN (by first | omega | simp) ?_ | with_reducible refine Ext.up1F (by first | omega | simp) ?_ | with_reducible refine Ext.up1N (by first | omega | simp) ?_ | with_reducible refine Ext.setCell ?_ (.inr (by first | omega | simp)) _ | refine Ext.alloc ?_ _ | refine Ext.setCellF _ _ _ (by first | omega | simp) ?_ | refine Ext.setCell ?_ (.inr (by first | omega | simp)) _))))) ?_
    rintro e x2 rfl
    go_wp2
    go_ret
    exact ⟨rfl, by (repeat (first | with_reducible exact Ext.refl _ _ | assumption | with_reducible refine Ext.upN ?_ | with_reducible refine Ext.alloc ?_ _ | with_reducible refine Ext.upA (by assumption) ?_ | with_reducible refine Ext.upW ?_ | with_reducible refine Ext.drew ?_ | with_reducible refine Ext.drewN ?_ _ | with_reducible refine Ext.upF ?_ | with_reducible refine Ext.upFF (by first | omega | simp) ?_ | with_reducible refine Ext.setCellsF _ _ _ (by first | omega | simp) ?_ | with_reducible refine Ext.setCellF _ _ _ (by first | omega | simp) ?_ | with_reducible refine Ext.upFN (by first | omega | simp) ?_ | with_reducible refine Ext.up1F (by first | omega | simp) ?_ | with_reducible refine Ext.up1N (by first | omega | simp) ?_ | with_reducible refine Ext.setCell ?_ (.inr (by first | omega | simp)) _ | refine Ext.alloc ?_ _ | refine Ext.setCellF _ _ _ (by first | omega | simp) ?_ | refine Ext.setCell ?_ (.inr (by first | omega | simp)) _))⟩
set_option maxRecDepth 100000 in
open Go.ChangeShapes Go.WideShapes in
theorem law_SlotsProofs {H : Type} {enc : TypeId × Value → H} (W : World) {base : Nat} (v0 : Value) (d0 : DataW H) (p0 : List MemPlace) (v1 : Value) (d1 : DataW H) (p1 : List MemPlace)
    (h0 : DataW.Trod enc Try.prog W 0 (fun _ => true) true 34 v0 d0 p0) (ok0 : Value.okWide Try.prog W .any base 34 v0)
    (h1 : DataW.Trod enc Try.prog W 0 (fun _ => true) true 69 v1 d1 p1) (ok1 : Value.okWide Try.prog W .any base 69 v1) :
    Calls Try.prog 13 #[v0, v1] W fun e w' => e = .returned (.bool true) ∧ Below W.heap.size W w' := by
  obtain ⟨ep, a, cap, xs, rfl, hep, hi, _⟩ := arg_conf ok0 h0
  obtain ⟨pa, pcap, l, rfl, hs⟩ := arg_ops14 ok1 h1
  exact (walk_SlotsProofs ep hep a cap xs pa pcap l W hi hs).mono fun _ _ ⟨a, b⟩ => ⟨a, b.toBelow⟩
end Go.Proofs.Ytakbkpklfihfiaa
