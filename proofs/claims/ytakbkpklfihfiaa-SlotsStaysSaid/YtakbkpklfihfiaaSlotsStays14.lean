/- The law SlotsStays: the walk. -/
import Derived.Test.YtakbkpklfihfiaaSlotsI2
import Derived.Test.YtakbkpklfihfiaaSame13
namespace Go.Proofs.Ytakbkpklfihfiaa
open Go.RowKit Go.Lib F64
set_option linter.unusedSimpArgs false
set_option linter.unusedVariables false
attribute [local go_sem] run_store_float
attribute [local go_sem low] EW.cellN EW.frozN alloc_cell_or alloc_froz_or EW.cellF EW.frozF EW.cell1 EW.froz1
attribute [local go_sem] relAt relUpon
theorem whole_refl (r : Req) : wholeB r r = true := by unfold wholeB; simp
theorem sigsEq_refl : ∀ l : List Sg, sigsEq l l = true
  | [] => rfl
  | s :: t => by unfold sigsEq sgEq; rw [sigsEq_refl t]; simp
theorem certsEq_refl : ∀ l : List Ct, certsEq l l = true
  | [] => rfl
  | c :: t => by unfold certsEq certEq; rw [certsEq_refl t, whole_refl, sigsEq_refl]; simp
theorem told_parts (o : Option Req) : ∃ c s k key x id d, toldV o = .tuple #[.agg #[.int .i64 c, .int .i64 s, .int .i64 k, .string key, .float .f64 x, .int .i64 id], .bool d] ∧ o.getD nullR = ⟨c, s, ⟨k, key, x, id⟩⟩ ∧ d = o.isSome := by
  unfold toldV reqV
  generalize o.getD nullR = r
  obtain ⟨c, s, ⟨k, key, x, id⟩⟩ := r
  exact ⟨c, s, k, key, x, id, _, rfl, rfl, rfl⟩
/-- A guard whose own operation was not wanted. -/
theorem unwanted_und {full : List Oper} {o : Oper} {a : Act} {j d : Nat} {b : Bool} (hg : o.guard = some (j, b)) (hj : (full[j]?).bind (·.dst) = some d) (hv : a.tmps[d]?.getD undef = undef) : Region.wanted o (yielded full.toArray a.tmps) = false := by
  have hn : ∀ c : Bool, a.tmps[d]? ≠ some (.bool c) := fun c e => by rw [e] at hv; cases hv
  have hy : yielded full.toArray a.tmps j = none := by
    unfold yielded
    have : ((full.toArray)[j]?).bind (·.dst) = some d := by simpa using hj
    rw [this]
    cases h : a.tmps[d]? with
    | none => simp [h]
    | some u => cases u <;> simp [h] <;> exact (hn _ h).elim
  unfold Region.wanted
  rw [hg]
  show (yielded full.toArray a.tmps j == some b) = false
  rw [hy]
  rfl
def anyN (l : List Ct) (n : Int) (k : Nat) : Bool := (l.take k).any fun c => decide (c.slot = n)
theorem anyN_succ {l : List Ct} (n : Int) {k : Nat} (h : k < l.length) : anyN l n (k + 1) = (anyN l n k || ((ctAt l k).slot == n)) := by
  unfold anyN
  rw [List.take_succ_eq_append_getElem h, List.any_append, ctAt_get h]
  simp only [List.any_cons, List.any_nil, Bool.or_false]
  congr 1
theorem anyN_all {l : List Ct} {n : Int} (h : ∃ c ∈ l, c.slot = n) : anyN l n l.length = true := by
  unfold anyN
  rw [List.take_length, List.any_eq_true]
  obtain ⟨c, hc, e⟩ := h
  exact ⟨c, hc, decide_eq_true e⟩
def moCs (l : List Ct) : Mo := ⟨fun v w => ∃ a cap, v = .slice a l.length cap ∧ Certs w a cap l, fun _ _ _ x ⟨g, c, e, h⟩ => ⟨g, c, e, h.extN x⟩⟩
theorem info_req6' : (Try.prog.info? 49).map (·.size) = some 6 := by kernel_rfl
theorem sized_ext (b : Nat) (G : Nat → Prop) (g : Lo) (n : Nat) (h0 : n = sizeG g) (w : World) (h : LoW w b G g) (hf : FewB g) : Calls Try.prog 40 #[.pointer (some ⟨b, 0, none⟩)] w fun e w' => e = .returned (.int .i64 n) ∧ Ext Non w w' := by
  subst h0; exact log_Size b G g w h hf
theorem viewx (b : Nat) (G : Nat → Prop) (g : Lo) (w : World) (h : LoW w b G g) : Calls Try.prog 41 #[.pointer (some ⟨b, 0, none⟩)] w fun e w' => e = .returned (.int .i64 g.view) ∧ Ext Non w w' :=
  (log_View b G g w h).mono fun e w' ⟨he, hx⟩ => ⟨he, by subst hx; exact Ext.refl _ _⟩
theorem viewd_ext (b : Nat) (G : Nat → Prop) (g : Lo) (v : Int) (h0 : v = g.view) (w : World) (h : LoW w b G g) : Calls Try.prog 41 #[.pointer (some ⟨b, 0, none⟩)] w fun e w' => e = .returned (.int .i64 v) ∧ Ext Non w w' := by
  subst h0; exact (log_View b G g w h).mono fun e w' ⟨he, hx⟩ => ⟨he, by subst hx; exact Ext.refl _ _⟩
set_option maxHeartbeats 4000000 in
set_option maxRecDepth 100000 in
theorem walk_SlotsStays (ep : Int) (hie : I64 ep) (a : Option Addr) (cap : Nat) (xs : List Int) (pa : Option Addr) (pcap : Nat) (l : List Stp) (w : World) (hi : Ints w a cap xs) (hs : Stps w pa pcap l) :
    Calls Try.prog 10 #[.agg #[.int .i64 ep, .slice a xs.length cap], .slice pa l.length pcap] w fun e w' => e = .returned (.bool true) ∧ Ext Non w w' := by
  have HI := Go.Lib.hid hi; have HS := Go.Lib.hid hs
  have hsm := hs.small; have hsl := hs.le
  have HE := Go.Lib.hid hie
  clear hi hs hie
  by_cases hc : confB ep xs = true
  · have HC := Go.Lib.hid hc; clear hc
    go_enter Try.func10, Try.ntmps10
    go_wp2_with fail
    have B0 := Go.Lib.hid (Bx.newAt w [.int .i64 ep, .slice a xs.length cap] 34 _ rfl)
    refine Calls.ew (law14_lives _) ?_
    rintro e x1 rfl
    have X1 : Ext Non w x1.on := by (repeat (first | with_reducible exact Ext.refl _ _ | assumption | with_reducible refine Ext.upN ?_ | with_reducible refine Ext.alloc ?_ _ | with_reducible refine Ext.upA (by assumption) ?_ | with_reducible refine Ext.upW ?_ | with_reducible refine Ext.drew ?_ | with_reducible refine Ext.drewN ?_ _ | with_reducible refine Ext.upF ?_ | with_reducible refine Ext.upFF (by first | omega | simp) ?_ | with_reducible refine Ext.setCellsF _ _ _ (by first | omega | simp) ?_ | with_reducible refine Ext.setCellF _ _ _ (by first | omega | simp) ?_ | with_reducible refine Ext.upFN (by first | omega | simp) ?_ | with_reducible refine Ext.up1F (by first | omega | simp) ?_ | with_reducible refine Ext.up1N (by first | omega | simp) ?_ | with_reducible refine Ext.setCell ?_ (.inr (by first | omega | simp)) _ | refine Ext.alloc ?_ _ | refine Ext.setCellF _ _ _ (by first | omega | simp) ?_ | refine Ext.setCell ?_ (.inr (by first | omega | simp)) _))
    have B1 := Go.Lib.hid (B0.out.extN x1.ext)
    clear B0
    go_wp2_with fail
    refine (slots_New ep a cap xs HC.out _ (HI.out.extN X1)).mono ?_
    rintro e _ ⟨b, G, rfl, hL, hF, hx⟩
    obtain ⟨x2, rfl⟩ := hx.ew
    have B2 := Go.Lib.hid (B1.out.extN x2.ext)
    have HL := Go.Lib.hid hL
    have hlt1 := B1.out.lt
    have X2 : Ext Non w x2.on := by (repeat (first | with_reducible exact Ext.refl _ _ | assumption | with_reducible refine Ext.upN ?_ | with_reducible refine Ext.alloc ?_ _ | with_reducible refine Ext.upA (by assumption) ?_ | with_reducible refine Ext.upW ?_ | with_reducible refine Ext.drew ?_ | with_reducible refine Ext.drewN ?_ _ | with_reducible refine Ext.upF ?_ | with_reducible refine Ext.upFF (by first | omega | simp) ?_ | with_reducible refine Ext.setCellsF _ _ _ (by first | omega | simp) ?_ | with_reducible refine Ext.setCellF _ _ _ (by first | omega | simp) ?_ | with_reducible refine Ext.upFN (by first | omega | simp) ?_ | with_reducible refine Ext.up1F (by first | omega | simp) ?_ | with_reducible refine Ext.up1N (by first | omega | simp) ?_ | with_reducible refine Ext.setCell ?_ (.inr (by first | omega | simp)) _ | refine Ext.alloc ?_ _ | refine Ext.setCellF _ _ _ (by first | omega | simp) ?_ | refine Ext.setCell ?_ (.inr (by first | omega | simp)) _))
    have HF2 : Hid (∀ j, LoF b G j → w.heap.size < j) := Go.Lib.hid (fun j hj => by have := hF j hj; omega)
    have hep := conf_facts HC.out
    have he0 := hep.1; have he1 := hep.2.1; have hl10 := hep.2.2.2.1
    clear hL hx B1 hF hep
    go_wp2_with fail
    obtain ⟨x3, hx3⟩ := X2.ew
    rw [hx3] at HL B2 ⊢
    clear hx3 X2 X1 hlt1 x2 x1
    go_loopg [7, 8, 9, 10, 11, 12, 13, 14, 15, 16, 17, 18] l.length (fun n iv i8 i9 i10 i11 i12 i13 i14 i15 i16 i17 i18 wr => ∃ (i : Nat) (g : Lo) (G : Nat → Prop) (z : EW Non w), i ≤ l.length ∧ n = l.length - i ∧ iv = .int .i64 i ∧ wr = z.on ∧ Hid (LoW wr b G g) ∧ Hid (LoI g ∧ g.ep = ep ∧ g.mem = xs) ∧ Hid (∀ j, LoF b G j → w.heap.size < j) ∧ Hid (Bx wr w.heap.size [.int .i64 ep, .slice a xs.length cap] 34))
    case atStart => exact ⟨0, newLo ep xs, G, x3, Nat.zero_le _, rfl, rfl, rfl, HL, Go.Lib.hid ⟨newLo_inv HC.out, rfl, rfl⟩, HF2, B2⟩
    case round =>
      clear HL B2 HF2
      obtain ⟨i, g, G, z, hi, hn, rfl, rfl, HL, HV, HF, BC⟩ := hrel
      have HN := Go.Lib.hid hn; clear hn
      by_cases hlt : i < l.length
      · obtain ⟨pb, po, rfl, hpb, pk, pok⟩ := HS.out.at_ i hlt
        generalize stAt l i = o at *
        have HO := Go.Lib.hid pok
        obtain ⟨k0, k1, k2, k3, kc, ks, kk, key, kb, kid, kw5⟩ := o
        have q0 : w.cell? ⟨pb, po + i * 11, none⟩ = some (.int .i64 k0) := pk 0 _ rfl
        have q1 : w.cell? ⟨pb, po + i * 11 + 1, none⟩ = some (.int .i64 k1) := pk 1 _ rfl
        have q2 : w.cell? ⟨pb, po + i * 11 + 2, none⟩ = some (.int .i64 k2) := pk 2 _ rfl
        have q3 : w.cell? ⟨pb, po + i * 11 + 3, none⟩ = some (.int .i64 k3) := pk 3 _ rfl
        have q4 : w.cell? ⟨pb, po + i * 11 + 4, none⟩ = some (.int .i64 kc) := pk 4 _ rfl
        have q5 : w.cell? ⟨pb, po + i * 11 + 5, none⟩ = some (.int .i64 ks) := pk 5 _ rfl
        have q6 : w.cell? ⟨pb, po + i * 11 + 6, none⟩ = some (.int .i64 kk) := pk 6 _ rfl
        have q7 : w.cell? ⟨pb, po + i * 11 + 7, none⟩ = some (.string key) := pk 7 _ rfl
        have q8 : w.cell? ⟨pb, po + i * 11 + 8, none⟩ = some (.int .u64 kb) := pk 8 _ rfl
        have q9 : w.cell? ⟨pb, po + i * 11 + 9, none⟩ = some (.int .i64 kid) := pk 9 _ rfl
        have q10 : w.cell? ⟨pb, po + i * 11 + 10, none⟩ = some (.bool kw5) := pk 10 _ rfl
        have qc : z.on.cell? ⟨w.heap.size, 0, none⟩ = some (.int .i64 ep) := BC.out.cell rfl
        have qc1 : z.on.cell? ⟨w.heap.size, 1, none⟩ = some (.slice a xs.length cap) := BC.out.cell rfl
        clear pk pok
        have hw1 : IntKind.i64.wrap (4 * ep) = 4 * ep := IntWalk.i64_in _ (by omega)
        have hw2 : IntKind.i64.wrap (4 * ep + 1) = 4 * ep + 1 := IntWalk.i64_in _ (by omega)
        go_wp2_with fail
        have hnr : I64 (4 * ep + 1 + (i : Int) % 4) := by unfold I64; omega
        generalize 4 * ep + 1 + (i : Int) % 4 = nn at *
        have HNN := Go.Lib.hid hnr
        clear hnr hw1 hw2
        refine Calls.ew (log_Size b G g _ (HL.out.extN (by (repeat (first | with_reducible exact Ext.refl _ _ | assumption | with_reducible refine Ext.upN ?_ | with_reducible refine Ext.alloc ?_ _ | with_reducible refine Ext.upA (by assumption) ?_ | with_reducible refine Ext.upW ?_ | with_reducible refine Ext.drew ?_ | with_reducible refine Ext.drewN ?_ _ | with_reducible refine Ext.upF ?_ | with_reducible refine Ext.upFF (by first | omega | simp) ?_ | with_reducible refine Ext.setCellsF _ _ _ (by first | omega | simp) ?_ | with_reducible refine Ext.setCellF _ _ _ (by first | omega | simp) ?_ | with_reducible refine Ext.upFN (by first | omega | simp) ?_ | with_reducible refine Ext.up1F (by first | omega | simp) ?_ | with_reducible refine Ext.up1N (by first | omega | simp) ?_ | with_reducible refine Ext.setCell ?_ (.inr (by first | omega | simp)) _ | refine Ext.alloc ?_ _ | refine Ext.setCellF _ _ _ (by first | omega | simp) ?_ | refine Ext.setCell ?_ (.inr (by first | omega | simp)) _)))) HV.out.1.fewB) ?_
        rintro e x4 rfl
        have HSZ := Go.Lib.hid HV.out.1.size
        generalize hsz : sizeG g = sz at *
        have HSZ1 : Hid (sz = sizeG g) := Go.Lib.hid hsz.symm
        clear hsz
        go_wp2_with fail
        refine Calls.ew (viewx b G g _ (HL.out.extN (by (repeat (first | with_reducible exact Ext.refl _ _ | assumption | with_reducible refine Ext.upN ?_ | with_reducible refine Ext.alloc ?_ _ | with_reducible refine Ext.upA (by assumption) ?_ | with_reducible refine Ext.upW ?_ | with_reducible refine Ext.drew ?_ | with_reducible refine Ext.drewN ?_ _ | with_reducible refine Ext.upF ?_ | with_reducible refine Ext.upFF (by first | omega | simp) ?_ | with_reducible refine Ext.setCellsF _ _ _ (by first | omega | simp) ?_ | with_reducible refine Ext.setCellF _ _ _ (by first | omega | simp) ?_ | with_reducible refine Ext.upFN (by first | omega | simp) ?_ | with_reducible refine Ext.up1F (by first | omega | simp) ?_ | with_reducible refine Ext.up1N (by first | omega | simp) ?_ | with_reducible refine Ext.setCell ?_ (.inr (by first | omega | simp)) _ | refine Ext.alloc ?_ _ | refine Ext.setCellF _ _ _ (by first | omega | simp) ?_ | refine Ext.setCell ?_ (.inr (by first | omega | simp)) _))))) ?_
        rintro e x5 rfl
        generalize hvw : g.view = vw at *
        have HVW1 : Hid (vw = g.view) := Go.Lib.hid hvw.symm
        clear hvw
        go_wp2_with fail
        refine Calls.ew (log_Committed b G g nn HNN.out _ (HL.out.extN (by (repeat (first | with_reducible exact Ext.refl _ _ | assumption | with_reducible refine Ext.upN ?_ | with_reducible refine Ext.alloc ?_ _ | with_reducible refine Ext.upA (by assumption) ?_ | with_reducible refine Ext.upW ?_ | with_reducible refine Ext.drew ?_ | with_reducible refine Ext.drewN ?_ _ | with_reducible refine Ext.upF ?_ | with_reducible refine Ext.upFF (by first | omega | simp) ?_ | with_reducible refine Ext.setCellsF _ _ _ (by first | omega | simp) ?_ | with_reducible refine Ext.setCellF _ _ _ (by first | omega | simp) ?_ | with_reducible refine Ext.upFN (by first | omega | simp) ?_ | with_reducible refine Ext.up1F (by first | omega | simp) ?_ | with_reducible refine Ext.up1N (by first | omega | simp) ?_ | with_reducible refine Ext.setCell ?_ (.inr (by first | omega | simp)) _ | refine Ext.alloc ?_ _ | refine Ext.setCellF _ _ _ (by first | omega | simp) ?_ | refine Ext.setCell ?_ (.inr (by first | omega | simp)) _))))) ?_
        rintro e x6 rfl
        obtain ⟨c1, s1, t1, key1, r1, id1, d1, hT1, hR1, hD1⟩ := told_parts (committedO g nn)
        rw [hT1]
        have HR1 := Go.Lib.hid hR1; have HD1 := Go.Lib.hid hD1
        clear hT1 hR1 hD1
        go_upto_region 12 with (refine wpList_store_box rfl 49 _ _ rfl x6.on.heap.size _ [.int .i64 c1, .int .i64 s1, .int .i64 t1, .string key1, .float .f64 r1, .int .i64 id1] _ rfl rfl (Bx.newAt _ _ _ _ rfl) rfl info_req6' (by simp [Value.oneCell']) (fun W hB => ?_); have BZ := Go.Lib.hid hB; clear hB)
        obtain ⟨x7, hx7⟩ := (by (repeat (first | with_reducible exact Ext.refl _ _ | assumption | with_reducible refine Ext.upN ?_ | with_reducible refine Ext.alloc ?_ _ | with_reducible refine Ext.upA (by assumption) ?_ | with_reducible refine Ext.upW ?_ | with_reducible refine Ext.drew ?_ | with_reducible refine Ext.drewN ?_ _ | with_reducible refine Ext.upF ?_ | with_reducible refine Ext.upFF (by first | omega | simp) ?_ | with_reducible refine Ext.setCellsF _ _ _ (by first | omega | simp) ?_ | with_reducible refine Ext.setCellF _ _ _ (by first | omega | simp) ?_ | with_reducible refine Ext.upFN (by first | omega | simp) ?_ | with_reducible refine Ext.up1F (by first | omega | simp) ?_ | with_reducible refine Ext.up1N (by first | omega | simp) ?_ | with_reducible refine Ext.setCell ?_ (.inr (by first | omega | simp)) _ | refine Ext.alloc ?_ _ | refine Ext.setCellF _ _ _ (by first | omega | simp) ?_ | refine Ext.setCell ?_ (.inr (by first | omega | simp)) _)) : Ext Non x6.on W.on).ew
        rw [hx7] at BZ ⊢
        clear hx7 W
        try simp only [Act.put]
        have hk1 : z.on.heap.size ≤ x6.on.heap.size := by have h1 := x4.ext.size; have h2 := x5.ext.size; have h3 := x6.ext.size; omega
        generalize hkx : x6.on.heap.size = kx at *
        go_wp2_with fail
        refine (log_CertsF b G g _ (HL.out.extN (by (repeat (first | with_reducible exact Ext.refl _ _ | assumption | with_reducible refine Ext.upN ?_ | with_reducible refine Ext.alloc ?_ _ | with_reducible refine Ext.upA (by assumption) ?_ | with_reducible refine Ext.upW ?_ | with_reducible refine Ext.drew ?_ | with_reducible refine Ext.drewN ?_ _ | with_reducible refine Ext.upF ?_ | with_reducible refine Ext.upFF (by first | omega | simp) ?_ | with_reducible refine Ext.setCellsF _ _ _ (by first | omega | simp) ?_ | with_reducible refine Ext.setCellF _ _ _ (by first | omega | simp) ?_ | with_reducible refine Ext.upFN (by first | omega | simp) ?_ | with_reducible refine Ext.up1F (by first | omega | simp) ?_ | with_reducible refine Ext.up1N (by first | omega | simp) ?_ | with_reducible refine Ext.setCell ?_ (.inr (by first | omega | simp)) _ | refine Ext.alloc ?_ _ | refine Ext.setCellF _ _ _ (by first | omega | simp) ?_ | refine Ext.setCell ?_ (.inr (by first | omega | simp)) _)))) HV.out.1.sigsB).mono ?_
        rintro e _ ⟨ca, cc, rfl, hC, hx⟩
        obtain ⟨x8, rfl⟩ := hx.ew
        have HCt := Go.Lib.hid hC
        clear hC hx
        have Z8 : Ext Non z.on x8.on := by (repeat (first | with_reducible exact Ext.refl _ _ | assumption | with_reducible refine Ext.upN ?_ | with_reducible refine Ext.alloc ?_ _ | with_reducible refine Ext.upA (by assumption) ?_ | with_reducible refine Ext.upW ?_ | with_reducible refine Ext.drew ?_ | with_reducible refine Ext.drewN ?_ _ | with_reducible refine Ext.upF ?_ | with_reducible refine Ext.upFF (by first | omega | simp) ?_ | with_reducible refine Ext.setCellsF _ _ _ (by first | omega | simp) ?_ | with_reducible refine Ext.setCellF _ _ _ (by first | omega | simp) ?_ | with_reducible refine Ext.upFN (by first | omega | simp) ?_ | with_reducible refine Ext.up1F (by first | omega | simp) ?_ | with_reducible refine Ext.up1N (by first | omega | simp) ?_ | with_reducible refine Ext.setCell ?_ (.inr (by first | omega | simp)) _ | refine Ext.alloc ?_ _ | refine Ext.setCellF _ _ _ (by first | omega | simp) ?_ | refine Ext.setCell ?_ (.inr (by first | omega | simp)) _))
        go_upto_region 13 with fail
        apply wp_region_rel_tail 7 (relR [Mo.is _, Mo.is _, Mo.is _, Mo.is _, Mo.is _, Mo.is _, Mo.is _]) (by kernel_rfl) (by kernel_rfl) (by kernel_rfl) (by kernel_rfl) (by kernel_rfl) (by decide) (by kernel_rfl) (relR_mono _) (StepD.all ?st1) ?q1
        case st1 =>
          refine ⟨?_, ?_, ?_, ?_, ?_, ?_, ?_, trivial⟩
          · intro a' w' hx hs hd
            obtain ⟨y, rfl⟩ := hx.ew
            have e5 : a'.tmps[5]?.getD undef = _ := hs 5 rfl
            simp only [List.getElem?_toArray, List.getElem?_cons_succ, List.getElem?_cons_zero, Option.getD_some, Array.getElem?_eq_some_iff] at e5
            refine .inl ⟨rfl, ?_⟩
            clear hs hd hx
            go_simp
            exact ⟨Ext.refl _ _, rfl⟩
          · intro a' w' hx hs hd
            obtain ⟨y, rfl⟩ := hx.ew
            have e2 : a'.tmps[2]?.getD undef = _ := hs 2 rfl
            simp only [List.getElem?_toArray, List.getElem?_cons_succ, List.getElem?_cons_zero, Option.getD_some, Array.getElem?_eq_some_iff] at e2
            refine .inl ⟨rfl, ?_⟩
            clear hs hd hx
            go_simp
            exact ⟨Ext.refl _ _, rfl⟩
          · intro a' w' hx hs hd
            obtain ⟨y, rfl⟩ := hx.ew
            have e56 : a'.tmps[56]?.getD undef = _ := hd 1 56 rfl rfl
            refine .inl ⟨rfl, ?_⟩
            clear hs hd hx
            go_simp
            exact ⟨Ext.refl _ _, rfl⟩
          · intro a' w' hx hs hd
            obtain ⟨y, rfl⟩ := hx.ew
            have e1 : a'.tmps[1]?.getD undef = _ := hs 1 rfl
            simp only [List.getElem?_toArray, List.getElem?_cons_succ, List.getElem?_cons_zero, Option.getD_some, Array.getElem?_eq_some_iff] at e1
            refine .inl ⟨rfl, ?_⟩
            clear hs hd hx
            go_simp
            exact ⟨Ext.refl _ _, rfl⟩
          · intro a' w' hx hs hd
            obtain ⟨y, rfl⟩ := hx.ew
            have e7 : a'.tmps[7]?.getD undef = _ := hs 7 rfl
            simp only [List.getElem?_toArray, List.getElem?_cons_succ, List.getElem?_cons_zero, Option.getD_some, Array.getElem?_eq_some_iff] at e7
            refine .inl ⟨rfl, ?_⟩
            clear hs hd hx
            go_simp
            exact ⟨Ext.refl _ _, rfl⟩
          · intro a' w' hx hs hd
            obtain ⟨y, rfl⟩ := hx.ew
            have e58 : a'.tmps[58]?.getD undef = _ := hd 3 58 rfl rfl
            have e59 : a'.tmps[59]?.getD undef = _ := hd 4 59 rfl rfl
            refine .inl ⟨rfl, ?_⟩
            clear hs hd hx
            go_simp
            exact ⟨Ext.refl _ _, rfl⟩
          · intro a' w' hx hs hd
            obtain ⟨y, rfl⟩ := hx.ew
            have e60 : a'.tmps[60]?.getD undef = _ := hd 5 60 rfl rfl
            refine .inl ⟨rfl, ?_⟩
            clear hs hd hx
            go_simp
            exact ⟨Ext.refl _ _, rfl⟩
        case' q1 =>
          intro vs w' hx hRR
          obtain ⟨x9, rfl⟩ := hx.ew
          have q0 : vs 0 = _ := hRR 0 (by decide)
          have q1 : vs 1 = _ := hRR 1 (by decide)
          have q2 : vs 2 = _ := hRR 2 (by decide)
          have q3 : vs 3 = _ := hRR 3 (by decide)
          have q4 : vs 4 = _ := hRR 4 (by decide)
          have q5 : vs 5 = _ := hRR 5 (by decide)
          have q6 : vs 6 = _ := hRR 6 (by decide)
          clear hRR hx
          simp only [putAll, List.take_succ_cons, List.take_zero, List.drop_succ_cons, List.drop_zero, Act.put, List.setIfInBounds_toArray, List.set_cons_zero, List.set_cons_succ, Nat.reduceAdd, Nat.zero_add]
          simp only [q0, q1, q2, q3, q4, q5, q6]
          clear q0 q1 q2 q3 q4 q5 q6 vs
        go_wp2_with fail
        have X9 : Ext Non w x9.on := by (repeat (first | with_reducible exact Ext.refl _ _ | assumption | with_reducible refine Ext.upN ?_ | with_reducible refine Ext.alloc ?_ _ | with_reducible refine Ext.upA (by assumption) ?_ | with_reducible refine Ext.upW ?_ | with_reducible refine Ext.drew ?_ | with_reducible refine Ext.drewN ?_ _ | with_reducible refine Ext.upF ?_ | with_reducible refine Ext.upFF (by first | omega | simp) ?_ | with_reducible refine Ext.setCellsF _ _ _ (by first | omega | simp) ?_ | with_reducible refine Ext.setCellF _ _ _ (by first | omega | simp) ?_ | with_reducible refine Ext.upFN (by first | omega | simp) ?_ | with_reducible refine Ext.up1F (by first | omega | simp) ?_ | with_reducible refine Ext.up1N (by first | omega | simp) ?_ | with_reducible refine Ext.setCell ?_ (.inr (by first | omega | simp)) _ | refine Ext.alloc ?_ _ | refine Ext.setCellF _ _ _ (by first | omega | simp) ?_ | refine Ext.setCell ?_ (.inr (by first | omega | simp)) _))
        have BC9 := BC.out.extN (by (repeat (first | with_reducible exact Ext.refl _ _ | assumption | with_reducible refine Ext.upN ?_ | with_reducible refine Ext.alloc ?_ _ | with_reducible refine Ext.upA (by assumption) ?_ | with_reducible refine Ext.upW ?_ | with_reducible refine Ext.drew ?_ | with_reducible refine Ext.drewN ?_ _ | with_reducible refine Ext.upF ?_ | with_reducible refine Ext.upFF (by first | omega | simp) ?_ | with_reducible refine Ext.setCellsF _ _ _ (by first | omega | simp) ?_ | with_reducible refine Ext.setCellF _ _ _ (by first | omega | simp) ?_ | with_reducible refine Ext.upFN (by first | omega | simp) ?_ | with_reducible refine Ext.up1F (by first | omega | simp) ?_ | with_reducible refine Ext.up1N (by first | omega | simp) ?_ | with_reducible refine Ext.setCell ?_ (.inr (by first | omega | simp)) _ | refine Ext.alloc ?_ _ | refine Ext.setCellF _ _ _ (by first | omega | simp) ?_ | refine Ext.setCell ?_ (.inr (by first | omega | simp)) _)) : Ext Non z.on x9.on)
        have BZ9 := BZ.out.extN (by (repeat (first | with_reducible exact Ext.refl _ _ | assumption | with_reducible refine Ext.upN ?_ | with_reducible refine Ext.alloc ?_ _ | with_reducible refine Ext.upA (by assumption) ?_ | with_reducible refine Ext.upW ?_ | with_reducible refine Ext.drew ?_ | with_reducible refine Ext.drewN ?_ _ | with_reducible refine Ext.upF ?_ | with_reducible refine Ext.upFF (by first | omega | simp) ?_ | with_reducible refine Ext.setCellsF _ _ _ (by first | omega | simp) ?_ | with_reducible refine Ext.setCellF _ _ _ (by first | omega | simp) ?_ | with_reducible refine Ext.upFN (by first | omega | simp) ?_ | with_reducible refine Ext.up1F (by first | omega | simp) ?_ | with_reducible refine Ext.up1N (by first | omega | simp) ?_ | with_reducible refine Ext.setCell ?_ (.inr (by first | omega | simp)) _ | refine Ext.alloc ?_ _ | refine Ext.setCellF _ _ _ (by first | omega | simp) ?_ | refine Ext.setCell ?_ (.inr (by first | omega | simp)) _)) : Ext Non x7.on x9.on)
        have LG := fun j hj => (HL.out.lt j hj : j < z.on.heap.size)
        have lb := HL.out.bl
        have X89 : Ext Non x8.on x9.on := by (repeat (first | with_reducible exact Ext.refl _ _ | assumption | with_reducible refine Ext.upN ?_ | with_reducible refine Ext.alloc ?_ _ | with_reducible refine Ext.upA (by assumption) ?_ | with_reducible refine Ext.upW ?_ | with_reducible refine Ext.drew ?_ | with_reducible refine Ext.drewN ?_ _ | with_reducible refine Ext.upF ?_ | with_reducible refine Ext.upFF (by first | omega | simp) ?_ | with_reducible refine Ext.setCellsF _ _ _ (by first | omega | simp) ?_ | with_reducible refine Ext.setCellF _ _ _ (by first | omega | simp) ?_ | with_reducible refine Ext.upFN (by first | omega | simp) ?_ | with_reducible refine Ext.up1F (by first | omega | simp) ?_ | with_reducible refine Ext.up1N (by first | omega | simp) ?_ | with_reducible refine Ext.setCell ?_ (.inr (by first | omega | simp)) _ | refine Ext.alloc ?_ _ | refine Ext.setCellF _ _ _ (by first | omega | simp) ?_ | refine Ext.setCell ?_ (.inr (by first | omega | simp)) _))
        have hx78 : kx < x7.on.heap.size := BZ.out.lt
        refine (law14_call b G g ep HE.out ⟨k0, k1, k2, k3, kc, ks, kk, key, kb, kid, kw5⟩ HO.out _ (HL.out.extN (by (repeat (first | with_reducible exact Ext.refl _ _ | assumption | with_reducible refine Ext.upN ?_ | with_reducible refine Ext.alloc ?_ _ | with_reducible refine Ext.upA (by assumption) ?_ | with_reducible refine Ext.upW ?_ | with_reducible refine Ext.drew ?_ | with_reducible refine Ext.drewN ?_ _ | with_reducible refine Ext.upF ?_ | with_reducible refine Ext.upFF (by first | omega | simp) ?_ | with_reducible refine Ext.setCellsF _ _ _ (by first | omega | simp) ?_ | with_reducible refine Ext.setCellF _ _ _ (by first | omega | simp) ?_ | with_reducible refine Ext.upFN (by first | omega | simp) ?_ | with_reducible refine Ext.up1F (by first | omega | simp) ?_ | with_reducible refine Ext.up1N (by first | omega | simp) ?_ | with_reducible refine Ext.setCell ?_ (.inr (by first | omega | simp)) _ | refine Ext.alloc ?_ _ | refine Ext.setCellF _ _ _ (by first | omega | simp) ?_ | refine Ext.setCell ?_ (.inr (by first | omega | simp)) _))))).mono ?_
        rintro e _ ⟨rfl, G2, hL2, hG2, hx2⟩
        have BC10 := Go.Lib.hid (BC9.ext hx2 (fun e => by have := HF.out _ e; omega))
        have BZ10 := Go.Lib.hid (BZ9.ext hx2 (fun e => by
          rcases e with e | e
          · omega
          · have := LG _ e; omega))
        have HCt10 := Go.Lib.hid (HCt.out (LoF b G) _ (X89.ofNon.trans hx2) (fun k e => by
          rcases e with rfl | e
          · omega
          · have := LG _ e; omega))
        obtain ⟨x10, hx10⟩ := (X9.own hx2 (fun k e => by have := HF.out k e; omega)).ew
        subst hx10
        obtain ⟨st1, st2⟩ := step_ok HV.out.1 ep ⟨k0, k1, k2, k3, kc, ks, kk, key, kb, kid, kw5⟩
        have HNO := Go.Lib.hid (fun h => step_no (g := g) (ep := ep) (o := ⟨k0, k1, k2, k3, kc, ks, kk, key, kb, kid, kw5⟩) h)
        have HST := Go.Lib.hid (fun r => st2.stays (n := nn) (r := r))
        have HV10 := Go.Lib.hid (And.intro st1 (And.intro (st2.ep.trans HV.out.2.1) (st2.mem.trans HV.out.2.2)))
        have HL10 := Go.Lib.hid hL2
        have hx9s := X9.size
        have HF10 : Hid (∀ j, LoF b G2 j → w.heap.size < j) := Go.Lib.hid (fun j hj => by
          rcases hj with rfl | hj
          · exact HF.out _ (.inl rfl)
          · rcases hG2 j hj with q | q
            · exact HF.out _ (.inr q)
            · have := BC9.lt; omega)
        clear hL2 hG2 hx2 BC9 BZ9 LG lb X89 hx78 st1 st2 HL HF BC BZ HCt hx9s qc qc1 q0 q1 q2 q3 q4 q5 q6 q7 q8 q9 q10 hk1 Z8 X9 hkx x4 x5 x6 x7 x8 x9
        generalize stepE g ep _ = er at *
        generalize stepG g ep _ = g2 at *
        go_wp2_with fail
        refine Calls.ew (log_Committed b G2 g2 nn HNN.out _ (HL10.out.extN (by (repeat (first | with_reducible exact Ext.refl _ _ | assumption | with_reducible refine Ext.upN ?_ | with_reducible refine Ext.alloc ?_ _ | with_reducible refine Ext.upA (by assumption) ?_ | with_reducible refine Ext.upW ?_ | with_reducible refine Ext.drew ?_ | with_reducible refine Ext.drewN ?_ _ | with_reducible refine Ext.upF ?_ | with_reducible refine Ext.upFF (by first | omega | simp) ?_ | with_reducible refine Ext.setCellsF _ _ _ (by first | omega | simp) ?_ | with_reducible refine Ext.setCellF _ _ _ (by first | omega | simp) ?_ | with_reducible refine Ext.upFN (by first | omega | simp) ?_ | with_reducible refine Ext.up1F (by first | omega | simp) ?_ | with_reducible refine Ext.up1N (by first | omega | simp) ?_ | with_reducible refine Ext.setCell ?_ (.inr (by first | omega | simp)) _ | refine Ext.alloc ?_ _ | refine Ext.setCellF _ _ _ (by first | omega | simp) ?_ | refine Ext.setCell ?_ (.inr (by first | omega | simp)) _))))) ?_
        rintro e x11 rfl
        obtain ⟨c2, s2', t2, key2, r2, id2, d2, hT2, hR2, hD2⟩ := told_parts (committedO g2 nn)
        rw [hT2]
        have HR2 := Go.Lib.hid hR2; have HD2 := Go.Lib.hid hD2
        clear hT2 hR2 hD2
        go_upto_region 14 with (refine wpList_store_box rfl 49 _ _ rfl x11.on.heap.size _ [.int .i64 c2, .int .i64 s2', .int .i64 t2, .string key2, .float .f64 r2, .int .i64 id2] _ rfl rfl (Bx.newAt _ _ _ _ rfl) rfl info_req6' (by simp [Value.oneCell']) (fun W hB => ?_); have BY := Go.Lib.hid hB; clear hB)
        have XW : Ext Non x10.on W.on := x11.ext.trans (by (repeat (first | with_reducible exact Ext.refl _ _ | assumption | with_reducible refine Ext.upN ?_ | with_reducible refine Ext.alloc ?_ _ | with_reducible refine Ext.upA (by assumption) ?_ | with_reducible refine Ext.upW ?_ | with_reducible refine Ext.drew ?_ | with_reducible refine Ext.drewN ?_ _ | with_reducible refine Ext.upF ?_ | with_reducible refine Ext.upFF (by first | omega | simp) ?_ | with_reducible refine Ext.setCellsF _ _ _ (by first | omega | simp) ?_ | with_reducible refine Ext.setCellF _ _ _ (by first | omega | simp) ?_ | with_reducible refine Ext.upFN (by first | omega | simp) ?_ | with_reducible refine Ext.up1F (by first | omega | simp) ?_ | with_reducible refine Ext.up1N (by first | omega | simp) ?_ | with_reducible refine Ext.setCell ?_ (.inr (by first | omega | simp)) _ | refine Ext.alloc ?_ _ | refine Ext.setCellF _ _ _ (by first | omega | simp) ?_ | refine Ext.setCell ?_ (.inr (by first | omega | simp)) _)) : Ext Non x11.on W.on)
        have HL12 := Go.Lib.hid (HL10.out.extN XW)
        have HCt12 := Go.Lib.hid (HCt10.out.extN XW)
        have BC12 := Go.Lib.hid (BC10.out.extN XW)
        have BZ12 := Go.Lib.hid (BZ10.out.extN XW)
        obtain ⟨x12, hx12⟩ := (x10.ext.trans XW).ew
        rw [hx12] at HL12 HCt12 BC12 BZ12 BY ⊢
        clear hx12 W XW HL10 HCt10 BC10 BZ10
        have HL10 := HL12; have HCt10 := HCt12; have BC10 := BC12; have BZ10 := BZ12
        clear HL12 HCt12 BC12 BZ12
        try simp only [Act.put]
        generalize x11.on.heap.size = ky at *
        clear x10 x11
        have z0 : x12.on.cell? ⟨kx, 0, none⟩ = some (.int .i64 c1) := BZ10.out.cell rfl
        have z1 : x12.on.cell? ⟨kx, 1, none⟩ = some (.int .i64 s1) := BZ10.out.cell rfl
        have z2 : x12.on.cell? ⟨kx, 2, none⟩ = some (.int .i64 t1) := BZ10.out.cell rfl
        have z3 : x12.on.cell? ⟨kx, 3, none⟩ = some (.string key1) := BZ10.out.cell rfl
        have z4 : x12.on.cell? ⟨kx, 4, none⟩ = some (.float .f64 r1) := BZ10.out.cell rfl
        have z5 : x12.on.cell? ⟨kx, 5, none⟩ = some (.int .i64 id1) := BZ10.out.cell rfl
        have y0 : x12.on.cell? ⟨ky, 0, none⟩ = some (.int .i64 c2) := BY.out.cell rfl
        have y1 : x12.on.cell? ⟨ky, 1, none⟩ = some (.int .i64 s2') := BY.out.cell rfl
        have y2 : x12.on.cell? ⟨ky, 2, none⟩ = some (.int .i64 t2) := BY.out.cell rfl
        have y3 : x12.on.cell? ⟨ky, 3, none⟩ = some (.string key2) := BY.out.cell rfl
        have y4 : x12.on.cell? ⟨ky, 4, none⟩ = some (.float .f64 r2) := BY.out.cell rfl
        have y5 : x12.on.cell? ⟨ky, 5, none⟩ = some (.int .i64 id2) := BY.out.cell rfl
        have qc1 : x12.on.cell? ⟨w.heap.size, 1, none⟩ = some (.slice a xs.length cap) := BC10.out.cell rfl
        obtain ⟨s2, hs2⟩ : ∃ s2, s2 = sizeG g2 := ⟨_, rfl⟩
        have hsb : s2 ≤ 4 * (1 + 2 * xs.length) := by have := HV10.out.1.size; rw [HV10.out.2.2, ← hs2] at this; exact this
        have HS2 := Go.Lib.hid hs2
        clear hs2
        have v1 : IntKind.i64.wrap (2 * (xs.length : Int)) = 2 * (xs.length : Int) := IntWalk.i64_in _ (by omega)
        have v2 : IntKind.i64.wrap (1 + 2 * (xs.length : Int)) = 1 + 2 * (xs.length : Int) := IntWalk.i64_in _ (by omega)
        have v3 : IntKind.i64.wrap (4 * (1 + 2 * (xs.length : Int))) = 4 * (1 + 2 * (xs.length : Int)) := IntWalk.i64_in _ (by omega)
        have v4 : decide (4 * (1 + 2 * (xs.length : Int)) < (s2 : Int)) = false := decide_eq_false (by omega)
        have P1 : d1 = true → d2 = true ∧ wholeB ⟨c1, s1, ⟨t1, key1, r1, id1⟩⟩ ⟨c2, s2', ⟨t2, key2, r2, id2⟩⟩ = true := fun h => by
          have h1 := HD1.out
          rw [h] at h1
          obtain ⟨r, hr⟩ := Option.isSome_iff_exists.1 h1.symm
          have h2 := HST.out r hr
          have e1 := HR1.out; have e2 := HR2.out
          rw [hr] at e1; rw [h2] at e2
          refine ⟨by rw [HD2.out, h2]; rfl, ?_⟩
          rw [← e1, ← e2]
          exact whole_refl _
        have P2 : er ≠ 0 → d2 = d1 := fun h => by rw [HD1.out, HD2.out, HNO.out h]
        have TF := HD2.out
        have HD2' := Go.Lib.hid (fun h : d2 = true => show ∃ c ∈ certsG g2, c.slot = nn by
          have h1 := HD2.out
          rw [h] at h1
          obtain ⟨r, hr⟩ := Option.isSome_iff_exists.1 h1.symm
          exact HV10.out.1.found hr)
        clear TF HD1 HD2 HST HR1 HR2
        go_upto_region 15 with fail
        cases d2
        · obtain rfl : d1 = false := by cases d1; rfl; exact absurd (P1 rfl).1 (by simp)
          clear P1 P2
          refine Classical.byCases (p := er = 0) ?stf1 ?stf2
          case' stf1 =>
            intro he
            subst he
            (refine wp_region_ext_lit (by kernel_rfl) (by kernel_rfl) ?_; (repeat (go_big_quiet_step (((go_at_call 40; exact Calls.ext_of (sized_ext b G2 g2 s2 HS2.out _ (HL10.out.extN (by (repeat (first | with_reducible exact Ext.refl _ _ | assumption | with_reducible refine Ext.upN ?_ | with_reducible refine Ext.alloc ?_ _ | with_reducible refine Ext.upA (by assumption) ?_ | with_reducible refine Ext.upW ?_ | with_reducible refine Ext.drew ?_ | with_reducible refine Ext.drewN ?_ _ | with_reducible refine Ext.upF ?_ | with_reducible refine Ext.upFF (by first | omega | simp) ?_ | with_reducible refine Ext.setCellsF _ _ _ (by first | omega | simp) ?_ | with_reducible refine Ext.setCellF _ _ _ (by first | omega | simp) ?_ | with_reducible refine Ext.upFN (by first | omega | simp) ?_ | with_reducible refine Ext.up1F (by first | omega | simp) ?_ | with_reducible refine Ext.up1N (by first | omega | simp) ?_ | with_reducible refine Ext.setCell ?_ (.inr (by first | omega | simp)) _ | refine Ext.alloc ?_ _ | refine Ext.setCellF _ _ _ (by first | omega | simp) ?_ | refine Ext.setCell ?_ (.inr (by first | omega | simp)) _)))) HV10.out.1.fewB)))))); refine wpQuiet_nil ?_; intro _ hw'; obtain ⟨xq, hw''⟩ := hw'; subst hw'')
          case' stf2 =>
            intro he
            have hg := HNO.out he
            have hz : s2 = sz := by rw [HSZ1.out, HS2.out, hg]
            subst hg
            subst hz
            have her : (er != 0) = true := by simpa using he
            clear he HNO
            apply wp_region_rel (relR [Mo.is _, Mo.is _, Mo.is _, Mo.is _, Mo.is _, Mo.is _, Mo.is _, Mo.is _, Mo.is _, Mo.is _, Mo.is _, Mo.is _, Mo.is _, Mo.is _, Mo.is _, Mo.is _, Mo.is _, Mo.is _, Mo.is _, Mo.is _, Mo.is _, Mo.is _, Mo.is _, Mo.is _, Mo.is _, Mo.is _, Mo.is _, Mo.is _, Mo.is _, Mo.is _, Mo.is _, Mo.is _, Mo.is _, Mo.is _, Mo.is _, Mo.is _, Mo.is _, Mo.is _, Mo.is _, Mo.is _, Mo.is _, Mo.is _, Mo.is _, moCs (certsG g2), Mo.is _, Mo.is _, Mo.is _, Mo.is _, Mo.is _, Mo.is _]) (by kernel_rfl) (by kernel_rfl) (by kernel_rfl) (relR_mono _) (StepD.all ?st2) ?q2
            case st2 =>
              refine ⟨?_, ?_, ?_, ?_, ?_, ?_, ?_, ?_, ?_, ?_, ?_, ?_, ?_, ?_, ?_, ?_, ?_, ?_, ?_, ?_, ?_, ?_, ?_, ?_, ?_, ?_, ?_, ?_, ?_, ?_, ?_, ?_, ?_, ?_, ?_, ?_, ?_, ?_, ?_, ?_, ?_, ?_, ?_, ?_, ?_, ?_, ?_, ?_, ?_, ?_, trivial⟩
              · intro a' w' hx hs hd
                obtain ⟨y, rfl⟩ := hx.ew
                have e12 : a'.tmps[12]?.getD undef = _ := hs 12 rfl
                simp only [List.getElem?_toArray, List.getElem?_cons_succ, List.getElem?_cons_zero, Option.getD_some, Array.getElem?_eq_some_iff] at e12
                refine .inl ⟨rfl, ?_⟩
                clear hs hd hx
                go_simp
                exact ⟨Ext.refl _ _, rfl⟩
              · intro a' w' hx hs hd
                obtain ⟨y, rfl⟩ := hx.ew
                have e69 : a'.tmps[69]?.getD undef = _ := hd 0 69 rfl rfl
                refine .inl ⟨rfl, ?_⟩
                clear hs hd hx
                go_simp
                exact ⟨Ext.refl _ _, rfl⟩
              · intro a' w' hx hs hd
                obtain ⟨y, rfl⟩ := hx.ew
                have eg : a'.tmps[70]?.getD undef = _ := hd 1 70 rfl rfl
                first
                | (refine .inr ⟨unwanted_of (j := 1) (d := 70) rfl rfl eg (by rfl), ?_⟩; exact (rfl : (Mo.is undef).p undef y.on))
                | (refine .inr ⟨unwanted_und (j := 1) (d := 70) rfl rfl eg, ?_⟩; exact (rfl : (Mo.is undef).p undef y.on))
                | (have e16 : a'.tmps[16]?.getD undef = _ := hs 16 rfl; simp only [List.getElem?_toArray, List.getElem?_cons_succ, List.getElem?_cons_zero, Option.getD_some, Array.getElem?_eq_some_iff] at e16; refine .inl ⟨wanted_of (j := 1) (d := 70) rfl rfl eg, ?_⟩; clear hs hd hx eg; go_simp; exact ⟨Ext.refl _ _, rfl⟩)
              · intro a' w' hx hs hd
                obtain ⟨y, rfl⟩ := hx.ew
                have eg : a'.tmps[70]?.getD undef = _ := hd 1 70 rfl rfl
                first
                | (refine .inr ⟨unwanted_of (j := 1) (d := 70) rfl rfl eg (by rfl), ?_⟩; exact (rfl : (Mo.is undef).p undef y.on))
                | (refine .inr ⟨unwanted_und (j := 1) (d := 70) rfl rfl eg, ?_⟩; exact (rfl : (Mo.is undef).p undef y.on))
                | (have e71 : a'.tmps[71]?.getD undef = _ := hd 2 71 rfl rfl; refine .inl ⟨wanted_of (j := 1) (d := 70) rfl rfl eg, ?_⟩; clear hs hd hx eg; go_simp; exact ⟨Ext.refl _ _, rfl⟩)
              · intro a' w' hx hs hd
                obtain ⟨y, rfl⟩ := hx.ew
                have eg : a'.tmps[70]?.getD undef = _ := hd 1 70 rfl rfl
                first
                | (refine .inr ⟨unwanted_of (j := 1) (d := 70) rfl rfl eg (by rfl), ?_⟩; exact (rfl : (Mo.is undef).p undef y.on))
                | (refine .inr ⟨unwanted_und (j := 1) (d := 70) rfl rfl eg, ?_⟩; exact (rfl : (Mo.is undef).p undef y.on))
                | (have e72 : a'.tmps[72]?.getD undef = _ := hd 3 72 rfl rfl; refine .inl ⟨wanted_of (j := 1) (d := 70) rfl rfl eg, ?_⟩; clear hs hd hx eg; go_simp; exact ⟨Ext.refl _ _, rfl⟩)
              · intro a' w' hx hs hd
                obtain ⟨y, rfl⟩ := hx.ew
                have eg : a'.tmps[73]?.getD undef = _ := hd 4 73 rfl rfl
                first
                | (refine .inr ⟨unwanted_of (j := 4) (d := 73) rfl rfl eg (by rfl), ?_⟩; exact (rfl : (Mo.is undef).p undef y.on))
                | (refine .inr ⟨unwanted_und (j := 4) (d := 73) rfl rfl eg, ?_⟩; exact (rfl : (Mo.is undef).p undef y.on))
                | (have e11 : a'.tmps[11]?.getD undef = _ := hs 11 rfl; simp only [List.getElem?_toArray, List.getElem?_cons_succ, List.getElem?_cons_zero, Option.getD_some, Array.getElem?_eq_some_iff] at e11; refine .inl ⟨wanted_of (j := 4) (d := 73) rfl rfl eg, ?_⟩; clear hs hd hx eg; go_simp; exact ⟨Ext.refl _ _, rfl⟩)
              · intro a' w' hx hs hd
                obtain ⟨y, rfl⟩ := hx.ew
                have eg : a'.tmps[73]?.getD undef = _ := hd 4 73 rfl rfl
                first
                | (refine .inr ⟨unwanted_of (j := 4) (d := 73) rfl rfl eg (by rfl), ?_⟩; exact (rfl : (Mo.is undef).p undef y.on))
                | (refine .inr ⟨unwanted_und (j := 4) (d := 73) rfl rfl eg, ?_⟩; exact (rfl : (Mo.is undef).p undef y.on))
                | (have e15 : a'.tmps[15]?.getD undef = _ := hs 15 rfl; simp only [List.getElem?_toArray, List.getElem?_cons_succ, List.getElem?_cons_zero, Option.getD_some, Array.getElem?_eq_some_iff] at e15; refine .inl ⟨wanted_of (j := 4) (d := 73) rfl rfl eg, ?_⟩; clear hs hd hx eg; go_simp; exact ⟨Ext.refl _ _, rfl⟩)
              · intro a' w' hx hs hd
                obtain ⟨y, rfl⟩ := hx.ew
                have eg : a'.tmps[73]?.getD undef = _ := hd 4 73 rfl rfl
                first
                | (refine .inr ⟨unwanted_of (j := 4) (d := 73) rfl rfl eg (by rfl), ?_⟩; exact (rfl : (Mo.is undef).p undef y.on))
                | (refine .inr ⟨unwanted_und (j := 4) (d := 73) rfl rfl eg, ?_⟩; exact (rfl : (Mo.is undef).p undef y.on))
                | (have e74 : a'.tmps[74]?.getD undef = _ := hd 5 74 rfl rfl; have e75 : a'.tmps[75]?.getD undef = _ := hd 6 75 rfl rfl; refine .inl ⟨wanted_of (j := 4) (d := 73) rfl rfl eg, ?_⟩; clear hs hd hx eg; go_simp; exact ⟨Ext.refl _ _, rfl⟩)
              · intro a' w' hx hs hd
                obtain ⟨y, rfl⟩ := hx.ew
                have eg : a'.tmps[73]?.getD undef = _ := hd 4 73 rfl rfl
                first
                | (refine .inr ⟨unwanted_of (j := 4) (d := 73) rfl rfl eg (by rfl), ?_⟩; exact (rfl : (Mo.is undef).p undef y.on))
                | (refine .inr ⟨unwanted_und (j := 4) (d := 73) rfl rfl eg, ?_⟩; exact (rfl : (Mo.is undef).p undef y.on))
                | (have e76 : a'.tmps[76]?.getD undef = _ := hd 7 76 rfl rfl; refine .inl ⟨wanted_of (j := 4) (d := 73) rfl rfl eg, ?_⟩; clear hs hd hx eg; go_simp; exact ⟨Ext.refl _ _, rfl⟩)
              · intro a' w' hx hs hd
                obtain ⟨y, rfl⟩ := hx.ew
                have eg : a'.tmps[70]?.getD undef = _ := hd 1 70 rfl rfl
                first
                | (refine .inr ⟨unwanted_of (j := 1) (d := 70) rfl rfl eg (by rfl), ?_⟩; exact (rfl : (Mo.is undef).p undef y.on))
                | (refine .inr ⟨unwanted_und (j := 1) (d := 70) rfl rfl eg, ?_⟩; exact (rfl : (Mo.is undef).p undef y.on))
                | (have e73 : a'.tmps[73]?.getD undef = _ := hd 4 73 rfl rfl; have e77 : a'.tmps[77]?.getD undef = _ := hd 8 77 rfl rfl; refine .inl ⟨wanted_of (j := 1) (d := 70) rfl rfl eg, ?_⟩; clear hs hd hx eg; go_simp; exact ⟨Ext.refl _ _, rfl⟩)
              · intro a' w' hx hs hd
                obtain ⟨y, rfl⟩ := hx.ew
                have e70 : a'.tmps[70]?.getD undef = _ := hd 1 70 rfl rfl
                have e78 : a'.tmps[78]?.getD undef = _ := hd 9 78 rfl rfl
                refine .inl ⟨rfl, ?_⟩
                clear hs hd hx
                go_simp
                exact ⟨Ext.refl _ _, rfl⟩
              · intro a' w' hx hs hd
                obtain ⟨y, rfl⟩ := hx.ew
                have e79 : a'.tmps[79]?.getD undef = _ := hd 10 79 rfl rfl
                refine .inl ⟨rfl, ?_⟩
                clear hs hd hx
                go_simp
                exact ⟨Ext.refl _ _, rfl⟩
              · intro a' w' hx hs hd
                obtain ⟨y, rfl⟩ := hx.ew
                have eg : a'.tmps[80]?.getD undef = _ := hd 11 80 rfl rfl
                first
                | (refine .inr ⟨unwanted_of (j := 11) (d := 80) rfl rfl eg (by rfl), ?_⟩; exact (rfl : (Mo.is undef).p undef y.on))
                | (refine .inr ⟨unwanted_und (j := 11) (d := 80) rfl rfl eg, ?_⟩; exact (rfl : (Mo.is undef).p undef y.on))
                | (have e5 : a'.tmps[5]?.getD undef = _ := hs 5 rfl; simp only [List.getElem?_toArray, List.getElem?_cons_succ, List.getElem?_cons_zero, Option.getD_some, Array.getElem?_eq_some_iff] at e5; refine .inl ⟨wanted_of (j := 11) (d := 80) rfl rfl eg, ?_⟩; clear hs hd hx eg; go_simp; exact ⟨Ext.refl _ _, rfl⟩)
              · intro a' w' hx hs hd
                obtain ⟨y, rfl⟩ := hx.ew
                have eg : a'.tmps[80]?.getD undef = _ := hd 11 80 rfl rfl
                first
                | (refine .inr ⟨unwanted_of (j := 11) (d := 80) rfl rfl eg (by rfl), ?_⟩; exact (rfl : (Mo.is undef).p undef y.on))
                | (refine .inr ⟨unwanted_und (j := 11) (d := 80) rfl rfl eg, ?_⟩; exact (rfl : (Mo.is undef).p undef y.on))
                | (have e81 : a'.tmps[81]?.getD undef = _ := hd 12 81 rfl rfl; refine .inl ⟨wanted_of (j := 11) (d := 80) rfl rfl eg, ?_⟩; clear hs hd hx eg; go_simp; exact (sized_ext b G2 g2 s2 HS2.out _ (HL10.out.extN (by (repeat (first | with_reducible exact Ext.refl _ _ | assumption | with_reducible refine Ext.upN ?_ | with_reducible refine Ext.alloc ?_ _ | with_reducible refine Ext.upA (by assumption) ?_ | with_reducible refine Ext.upW ?_ | with_reducible refine Ext.drew ?_ | with_reducible refine Ext.drewN ?_ _ | with_reducible refine Ext.upF ?_ | with_reducible refine Ext.upFF (by first | omega | simp) ?_ | with_reducible refine Ext.setCellsF _ _ _ (by first | omega | simp) ?_ | with_reducible refine Ext.setCellF _ _ _ (by first | omega | simp) ?_ | with_reducible refine Ext.upFN (by first | omega | simp) ?_ | with_reducible refine Ext.up1F (by first | omega | simp) ?_ | with_reducible refine Ext.up1N (by first | omega | simp) ?_ | with_reducible refine Ext.setCell ?_ (.inr (by first | omega | simp)) _ | refine Ext.alloc ?_ _ | refine Ext.setCellF _ _ _ (by first | omega | simp) ?_ | refine Ext.setCell ?_ (.inr (by first | omega | simp)) _)))) HV10.out.1.fewB).mono (fun e w'' ⟨he, hx⟩ => ⟨_, he, hx, rfl⟩))
              · intro a' w' hx hs hd
                obtain ⟨y, rfl⟩ := hx.ew
                have eg : a'.tmps[80]?.getD undef = _ := hd 11 80 rfl rfl
                first
                | (refine .inr ⟨unwanted_of (j := 11) (d := 80) rfl rfl eg (by rfl), ?_⟩; exact (rfl : (Mo.is undef).p undef y.on))
                | (refine .inr ⟨unwanted_und (j := 11) (d := 80) rfl rfl eg, ?_⟩; exact (rfl : (Mo.is undef).p undef y.on))
                | (have e2 : a'.tmps[2]?.getD undef = _ := hs 2 rfl; simp only [List.getElem?_toArray, List.getElem?_cons_succ, List.getElem?_cons_zero, Option.getD_some, Array.getElem?_eq_some_iff] at e2; refine .inl ⟨wanted_of (j := 11) (d := 80) rfl rfl eg, ?_⟩; clear hs hd hx eg; go_simp; exact ⟨Ext.refl _ _, rfl⟩)
              · intro a' w' hx hs hd
                obtain ⟨y, rfl⟩ := hx.ew
                have eg : a'.tmps[80]?.getD undef = _ := hd 11 80 rfl rfl
                first
                | (refine .inr ⟨unwanted_of (j := 11) (d := 80) rfl rfl eg (by rfl), ?_⟩; exact (rfl : (Mo.is undef).p undef y.on))
                | (refine .inr ⟨unwanted_und (j := 11) (d := 80) rfl rfl eg, ?_⟩; exact (rfl : (Mo.is undef).p undef y.on))
                | (have e83 : a'.tmps[83]?.getD undef = _ := hd 14 83 rfl rfl; refine .inl ⟨wanted_of (j := 11) (d := 80) rfl rfl eg, ?_⟩; clear hs hd hx eg; go_simp; exact ⟨Ext.refl _ _, rfl⟩)
              · intro a' w' hx hs hd
                obtain ⟨y, rfl⟩ := hx.ew
                have eg : a'.tmps[80]?.getD undef = _ := hd 11 80 rfl rfl
                first
                | (refine .inr ⟨unwanted_of (j := 11) (d := 80) rfl rfl eg (by rfl), ?_⟩; exact (rfl : (Mo.is undef).p undef y.on))
                | (refine .inr ⟨unwanted_und (j := 11) (d := 80) rfl rfl eg, ?_⟩; exact (rfl : (Mo.is undef).p undef y.on))
                | (have e84 : a'.tmps[84]?.getD undef = _ := hd 15 84 rfl rfl; refine .inl ⟨wanted_of (j := 11) (d := 80) rfl rfl eg, ?_⟩; clear hs hd hx eg; go_simp; exact ⟨Ext.refl _ _, rfl⟩)
              · intro a' w' hx hs hd
                obtain ⟨y, rfl⟩ := hx.ew
                have eg : a'.tmps[80]?.getD undef = _ := hd 11 80 rfl rfl
                first
                | (refine .inr ⟨unwanted_of (j := 11) (d := 80) rfl rfl eg (by rfl), ?_⟩; exact (rfl : (Mo.is undef).p undef y.on))
                | (refine .inr ⟨unwanted_und (j := 11) (d := 80) rfl rfl eg, ?_⟩; exact (rfl : (Mo.is undef).p undef y.on))
                | (have e85 : a'.tmps[85]?.getD undef = _ := hd 16 85 rfl rfl; refine .inl ⟨wanted_of (j := 11) (d := 80) rfl rfl eg, ?_⟩; clear hs hd hx eg; go_simp; exact ⟨Ext.refl _ _, rfl⟩)
              · intro a' w' hx hs hd
                obtain ⟨y, rfl⟩ := hx.ew
                have eg : a'.tmps[80]?.getD undef = _ := hd 11 80 rfl rfl
                first
                | (refine .inr ⟨unwanted_of (j := 11) (d := 80) rfl rfl eg (by rfl), ?_⟩; exact (rfl : (Mo.is undef).p undef y.on))
                | (refine .inr ⟨unwanted_und (j := 11) (d := 80) rfl rfl eg, ?_⟩; exact (rfl : (Mo.is undef).p undef y.on))
                | (have e86 : a'.tmps[86]?.getD undef = _ := hd 17 86 rfl rfl; refine .inl ⟨wanted_of (j := 11) (d := 80) rfl rfl eg, ?_⟩; clear hs hd hx eg; go_simp; exact ⟨Ext.refl _ _, rfl⟩)
              · intro a' w' hx hs hd
                obtain ⟨y, rfl⟩ := hx.ew
                have eg : a'.tmps[80]?.getD undef = _ := hd 11 80 rfl rfl
                first
                | (refine .inr ⟨unwanted_of (j := 11) (d := 80) rfl rfl eg (by rfl), ?_⟩; exact (rfl : (Mo.is undef).p undef y.on))
                | (refine .inr ⟨unwanted_und (j := 11) (d := 80) rfl rfl eg, ?_⟩; exact (rfl : (Mo.is undef).p undef y.on))
                | (have e87 : a'.tmps[87]?.getD undef = _ := hd 18 87 rfl rfl; refine .inl ⟨wanted_of (j := 11) (d := 80) rfl rfl eg, ?_⟩; clear hs hd hx eg; go_simp; exact ⟨Ext.refl _ _, rfl⟩)
              · intro a' w' hx hs hd
                obtain ⟨y, rfl⟩ := hx.ew
                have eg : a'.tmps[80]?.getD undef = _ := hd 11 80 rfl rfl
                first
                | (refine .inr ⟨unwanted_of (j := 11) (d := 80) rfl rfl eg (by rfl), ?_⟩; exact (rfl : (Mo.is undef).p undef y.on))
                | (refine .inr ⟨unwanted_und (j := 11) (d := 80) rfl rfl eg, ?_⟩; exact (rfl : (Mo.is undef).p undef y.on))
                | (have e82 : a'.tmps[82]?.getD undef = _ := hd 13 82 rfl rfl; have e88 : a'.tmps[88]?.getD undef = _ := hd 19 88 rfl rfl; refine .inl ⟨wanted_of (j := 11) (d := 80) rfl rfl eg, ?_⟩; clear hs hd hx eg; go_simp; exact ⟨Ext.refl _ _, rfl⟩)
              · intro a' w' hx hs hd
                obtain ⟨y, rfl⟩ := hx.ew
                have e80 : a'.tmps[80]?.getD undef = _ := hd 11 80 rfl rfl
                have e89 : a'.tmps[89]?.getD undef = _ := hd 20 89 rfl rfl
                refine .inl ⟨rfl, ?_⟩
                clear hs hd hx
                go_simp
                exact ⟨Ext.refl _ _, rfl⟩
              · intro a' w' hx hs hd
                obtain ⟨y, rfl⟩ := hx.ew
                have e90 : a'.tmps[90]?.getD undef = _ := hd 21 90 rfl rfl
                refine .inl ⟨rfl, ?_⟩
                clear hs hd hx
                go_simp
                exact ⟨Ext.refl _ _, rfl⟩
              · intro a' w' hx hs hd
                obtain ⟨y, rfl⟩ := hx.ew
                have eg : a'.tmps[91]?.getD undef = _ := hd 22 91 rfl rfl
                first
                | (refine .inr ⟨unwanted_of (j := 22) (d := 91) rfl rfl eg (by rfl), ?_⟩; exact (rfl : (Mo.is undef).p undef y.on))
                | (refine .inr ⟨unwanted_und (j := 22) (d := 91) rfl rfl eg, ?_⟩; exact (rfl : (Mo.is undef).p undef y.on))
                | (have e14 : a'.tmps[14]?.getD undef = _ := hs 14 rfl; simp only [List.getElem?_toArray, List.getElem?_cons_succ, List.getElem?_cons_zero, Option.getD_some, Array.getElem?_eq_some_iff] at e14; refine .inl ⟨wanted_of (j := 22) (d := 91) rfl rfl eg, ?_⟩; clear hs hd hx eg; go_simp; exact ⟨Ext.refl _ _, rfl⟩)
              · intro a' w' hx hs hd
                obtain ⟨y, rfl⟩ := hx.ew
                have eg : a'.tmps[91]?.getD undef = _ := hd 22 91 rfl rfl
                first
                | (refine .inr ⟨unwanted_of (j := 22) (d := 91) rfl rfl eg (by rfl), ?_⟩; exact (rfl : (Mo.is undef).p undef y.on))
                | (refine .inr ⟨unwanted_und (j := 22) (d := 91) rfl rfl eg, ?_⟩; exact (rfl : (Mo.is undef).p undef y.on))
                | (have e92 : a'.tmps[92]?.getD undef = _ := hd 23 92 rfl rfl; refine .inl ⟨wanted_of (j := 22) (d := 91) rfl rfl eg, ?_⟩; clear hs hd hx eg; go_simp; exact ⟨Ext.refl _ _, rfl⟩)
              · intro a' w' hx hs hd
                obtain ⟨y, rfl⟩ := hx.ew
                have eg : a'.tmps[91]?.getD undef = _ := hd 22 91 rfl rfl
                first
                | (refine .inr ⟨unwanted_of (j := 22) (d := 91) rfl rfl eg (by rfl), ?_⟩; exact (rfl : (Mo.is undef).p undef y.on))
                | (refine .inr ⟨unwanted_und (j := 22) (d := 91) rfl rfl eg, ?_⟩; exact (rfl : (Mo.is undef).p undef y.on))
                | (have e93 : a'.tmps[93]?.getD undef = _ := hd 24 93 rfl rfl; refine .inl ⟨wanted_of (j := 22) (d := 91) rfl rfl eg, ?_⟩; clear hs hd hx eg; go_simp; exact ⟨Ext.refl _ _, rfl⟩)
              · intro a' w' hx hs hd
                obtain ⟨y, rfl⟩ := hx.ew
                have eg : a'.tmps[94]?.getD undef = _ := hd 25 94 rfl rfl
                first
                | (refine .inr ⟨unwanted_of (j := 25) (d := 94) rfl rfl eg (by rfl), ?_⟩; exact (rfl : (Mo.is undef).p undef y.on))
                | (refine .inr ⟨unwanted_und (j := 25) (d := 94) rfl rfl eg, ?_⟩; exact (rfl : (Mo.is undef).p undef y.on))
                | (have e5 : a'.tmps[5]?.getD undef = _ := hs 5 rfl; simp only [List.getElem?_toArray, List.getElem?_cons_succ, List.getElem?_cons_zero, Option.getD_some, Array.getElem?_eq_some_iff] at e5; refine .inl ⟨wanted_of (j := 25) (d := 94) rfl rfl eg, ?_⟩; clear hs hd hx eg; go_simp; exact ⟨Ext.refl _ _, rfl⟩)
              · intro a' w' hx hs hd
                obtain ⟨y, rfl⟩ := hx.ew
                have eg : a'.tmps[94]?.getD undef = _ := hd 25 94 rfl rfl
                first
                | (refine .inr ⟨unwanted_of (j := 25) (d := 94) rfl rfl eg (by rfl), ?_⟩; exact (rfl : (Mo.is undef).p undef y.on))
                | (refine .inr ⟨unwanted_und (j := 25) (d := 94) rfl rfl eg, ?_⟩; exact (rfl : (Mo.is undef).p undef y.on))
                | (have e95 : a'.tmps[95]?.getD undef = _ := hd 26 95 rfl rfl; refine .inl ⟨wanted_of (j := 25) (d := 94) rfl rfl eg, ?_⟩; clear hs hd hx eg; go_simp; exact (sized_ext b G2 g2 s2 HS2.out _ (HL10.out.extN (by (repeat (first | with_reducible exact Ext.refl _ _ | assumption | with_reducible refine Ext.upN ?_ | with_reducible refine Ext.alloc ?_ _ | with_reducible refine Ext.upA (by assumption) ?_ | with_reducible refine Ext.upW ?_ | with_reducible refine Ext.drew ?_ | with_reducible refine Ext.drewN ?_ _ | with_reducible refine Ext.upF ?_ | with_reducible refine Ext.upFF (by first | omega | simp) ?_ | with_reducible refine Ext.setCellsF _ _ _ (by first | omega | simp) ?_ | with_reducible refine Ext.setCellF _ _ _ (by first | omega | simp) ?_ | with_reducible refine Ext.upFN (by first | omega | simp) ?_ | with_reducible refine Ext.up1F (by first | omega | simp) ?_ | with_reducible refine Ext.up1N (by first | omega | simp) ?_ | with_reducible refine Ext.setCell ?_ (.inr (by first | omega | simp)) _ | refine Ext.alloc ?_ _ | refine Ext.setCellF _ _ _ (by first | omega | simp) ?_ | refine Ext.setCell ?_ (.inr (by first | omega | simp)) _)))) HV10.out.1.fewB).mono (fun e w'' ⟨he, hx⟩ => ⟨_, he, hx, rfl⟩))
              · intro a' w' hx hs hd
                obtain ⟨y, rfl⟩ := hx.ew
                have eg : a'.tmps[94]?.getD undef = _ := hd 25 94 rfl rfl
                first
                | (refine .inr ⟨unwanted_of (j := 25) (d := 94) rfl rfl eg (by rfl), ?_⟩; exact (rfl : (Mo.is undef).p undef y.on))
                | (refine .inr ⟨unwanted_und (j := 25) (d := 94) rfl rfl eg, ?_⟩; exact (rfl : (Mo.is undef).p undef y.on))
                | (have e9 : a'.tmps[9]?.getD undef = _ := hs 9 rfl; simp only [List.getElem?_toArray, List.getElem?_cons_succ, List.getElem?_cons_zero, Option.getD_some, Array.getElem?_eq_some_iff] at e9; refine .inl ⟨wanted_of (j := 25) (d := 94) rfl rfl eg, ?_⟩; clear hs hd hx eg; go_simp; exact ⟨Ext.refl _ _, rfl⟩)
              · intro a' w' hx hs hd
                obtain ⟨y, rfl⟩ := hx.ew
                have eg : a'.tmps[94]?.getD undef = _ := hd 25 94 rfl rfl
                first
                | (refine .inr ⟨unwanted_of (j := 25) (d := 94) rfl rfl eg (by rfl), ?_⟩; exact (rfl : (Mo.is undef).p undef y.on))
                | (refine .inr ⟨unwanted_und (j := 25) (d := 94) rfl rfl eg, ?_⟩; exact (rfl : (Mo.is undef).p undef y.on))
                | (have e96 : a'.tmps[96]?.getD undef = _ := hd 27 96 rfl rfl; have e97 : a'.tmps[97]?.getD undef = _ := hd 28 97 rfl rfl; refine .inl ⟨wanted_of (j := 25) (d := 94) rfl rfl eg, ?_⟩; clear hs hd hx eg; go_simp; exact ⟨Ext.refl _ _, rfl⟩)
              · intro a' w' hx hs hd
                obtain ⟨y, rfl⟩ := hx.ew
                have eg : a'.tmps[94]?.getD undef = _ := hd 25 94 rfl rfl
                first
                | (refine .inr ⟨unwanted_of (j := 25) (d := 94) rfl rfl eg (by rfl), ?_⟩; exact (rfl : (Mo.is undef).p undef y.on))
                | (refine .inr ⟨unwanted_und (j := 25) (d := 94) rfl rfl eg, ?_⟩; exact (rfl : (Mo.is undef).p undef y.on))
                | (have e98 : a'.tmps[98]?.getD undef = _ := hd 29 98 rfl rfl; refine .inl ⟨wanted_of (j := 25) (d := 94) rfl rfl eg, ?_⟩; clear hs hd hx eg; go_simp; exact ⟨Ext.refl _ _, rfl⟩)
              · intro a' w' hx hs hd
                obtain ⟨y, rfl⟩ := hx.ew
                have eg : a'.tmps[99]?.getD undef = _ := hd 30 99 rfl rfl
                first
                | (refine .inr ⟨unwanted_of (j := 30) (d := 99) rfl rfl eg (by rfl), ?_⟩; exact (rfl : (Mo.is undef).p undef y.on))
                | (refine .inr ⟨unwanted_und (j := 30) (d := 99) rfl rfl eg, ?_⟩; exact (rfl : (Mo.is undef).p undef y.on))
                | (have e5 : a'.tmps[5]?.getD undef = _ := hs 5 rfl; simp only [List.getElem?_toArray, List.getElem?_cons_succ, List.getElem?_cons_zero, Option.getD_some, Array.getElem?_eq_some_iff] at e5; refine .inl ⟨wanted_of (j := 30) (d := 99) rfl rfl eg, ?_⟩; clear hs hd hx eg; go_simp; exact ⟨Ext.refl _ _, rfl⟩)
              · intro a' w' hx hs hd
                obtain ⟨y, rfl⟩ := hx.ew
                have eg : a'.tmps[99]?.getD undef = _ := hd 30 99 rfl rfl
                first
                | (refine .inr ⟨unwanted_of (j := 30) (d := 99) rfl rfl eg (by rfl), ?_⟩; exact (rfl : (Mo.is undef).p undef y.on))
                | (refine .inr ⟨unwanted_und (j := 30) (d := 99) rfl rfl eg, ?_⟩; exact (rfl : (Mo.is undef).p undef y.on))
                | (have e100 : a'.tmps[100]?.getD undef = _ := hd 31 100 rfl rfl; refine .inl ⟨wanted_of (j := 30) (d := 99) rfl rfl eg, ?_⟩; clear hs hd hx eg; go_simp; exact (viewd_ext b G2 g2 vw HVW1.out _ (HL10.out.extN (by (repeat (first | with_reducible exact Ext.refl _ _ | assumption | with_reducible refine Ext.upN ?_ | with_reducible refine Ext.alloc ?_ _ | with_reducible refine Ext.upA (by assumption) ?_ | with_reducible refine Ext.upW ?_ | with_reducible refine Ext.drew ?_ | with_reducible refine Ext.drewN ?_ _ | with_reducible refine Ext.upF ?_ | with_reducible refine Ext.upFF (by first | omega | simp) ?_ | with_reducible refine Ext.setCellsF _ _ _ (by first | omega | simp) ?_ | with_reducible refine Ext.setCellF _ _ _ (by first | omega | simp) ?_ | with_reducible refine Ext.upFN (by first | omega | simp) ?_ | with_reducible refine Ext.up1F (by first | omega | simp) ?_ | with_reducible refine Ext.up1N (by first | omega | simp) ?_ | with_reducible refine Ext.setCell ?_ (.inr (by first | omega | simp)) _ | refine Ext.alloc ?_ _ | refine Ext.setCellF _ _ _ (by first | omega | simp) ?_ | refine Ext.setCell ?_ (.inr (by first | omega | simp)) _))))).mono (fun e w'' ⟨he, hx⟩ => ⟨_, he, hx, rfl⟩))
              · intro a' w' hx hs hd
                obtain ⟨y, rfl⟩ := hx.ew
                have eg : a'.tmps[99]?.getD undef = _ := hd 30 99 rfl rfl
                first
                | (refine .inr ⟨unwanted_of (j := 30) (d := 99) rfl rfl eg (by rfl), ?_⟩; exact (rfl : (Mo.is undef).p undef y.on))
                | (refine .inr ⟨unwanted_und (j := 30) (d := 99) rfl rfl eg, ?_⟩; exact (rfl : (Mo.is undef).p undef y.on))
                | (have e10 : a'.tmps[10]?.getD undef = _ := hs 10 rfl; simp only [List.getElem?_toArray, List.getElem?_cons_succ, List.getElem?_cons_zero, Option.getD_some, Array.getElem?_eq_some_iff] at e10; refine .inl ⟨wanted_of (j := 30) (d := 99) rfl rfl eg, ?_⟩; clear hs hd hx eg; go_simp; exact ⟨Ext.refl _ _, rfl⟩)
              · intro a' w' hx hs hd
                obtain ⟨y, rfl⟩ := hx.ew
                have eg : a'.tmps[99]?.getD undef = _ := hd 30 99 rfl rfl
                first
                | (refine .inr ⟨unwanted_of (j := 30) (d := 99) rfl rfl eg (by rfl), ?_⟩; exact (rfl : (Mo.is undef).p undef y.on))
                | (refine .inr ⟨unwanted_und (j := 30) (d := 99) rfl rfl eg, ?_⟩; exact (rfl : (Mo.is undef).p undef y.on))
                | (have e101 : a'.tmps[101]?.getD undef = _ := hd 32 101 rfl rfl; have e102 : a'.tmps[102]?.getD undef = _ := hd 33 102 rfl rfl; refine .inl ⟨wanted_of (j := 30) (d := 99) rfl rfl eg, ?_⟩; clear hs hd hx eg; go_simp; exact ⟨Ext.refl _ _, rfl⟩)
              · intro a' w' hx hs hd
                obtain ⟨y, rfl⟩ := hx.ew
                have eg : a'.tmps[94]?.getD undef = _ := hd 25 94 rfl rfl
                first
                | (refine .inr ⟨unwanted_of (j := 25) (d := 94) rfl rfl eg (by rfl), ?_⟩; exact (rfl : (Mo.is undef).p undef y.on))
                | (refine .inr ⟨unwanted_und (j := 25) (d := 94) rfl rfl eg, ?_⟩; exact (rfl : (Mo.is undef).p undef y.on))
                | (have e99 : a'.tmps[99]?.getD undef = _ := hd 30 99 rfl rfl; have e103 : a'.tmps[103]?.getD undef = _ := hd 34 103 rfl rfl; refine .inl ⟨wanted_of (j := 25) (d := 94) rfl rfl eg, ?_⟩; clear hs hd hx eg; go_simp; exact ⟨Ext.refl _ _, rfl⟩)
              · intro a' w' hx hs hd
                obtain ⟨y, rfl⟩ := hx.ew
                have eg : a'.tmps[94]?.getD undef = _ := hd 25 94 rfl rfl
                first
                | (refine .inr ⟨unwanted_of (j := 25) (d := 94) rfl rfl eg (by rfl), ?_⟩; exact (rfl : (Mo.is undef).p undef y.on))
                | (refine .inr ⟨unwanted_und (j := 25) (d := 94) rfl rfl eg, ?_⟩; exact (rfl : (Mo.is undef).p undef y.on))
                | (have e104 : a'.tmps[104]?.getD undef = _ := hd 35 104 rfl rfl; refine .inl ⟨wanted_of (j := 25) (d := 94) rfl rfl eg, ?_⟩; clear hs hd hx eg; go_simp; exact ⟨Ext.refl _ _, rfl⟩)
              · intro a' w' hx hs hd
                obtain ⟨y, rfl⟩ := hx.ew
                have eg : a'.tmps[105]?.getD undef = _ := hd 36 105 rfl rfl
                first
                | (refine .inr ⟨unwanted_of (j := 36) (d := 105) rfl rfl eg (by rfl), ?_⟩; exact (rfl : (Mo.is undef).p undef y.on))
                | (refine .inr ⟨unwanted_und (j := 36) (d := 105) rfl rfl eg, ?_⟩; exact (rfl : (Mo.is undef).p undef y.on))
                | (have e16 : a'.tmps[16]?.getD undef = _ := hs 16 rfl; simp only [List.getElem?_toArray, List.getElem?_cons_succ, List.getElem?_cons_zero, Option.getD_some, Array.getElem?_eq_some_iff] at e16; refine .inl ⟨wanted_of (j := 36) (d := 105) rfl rfl eg, ?_⟩; clear hs hd hx eg; go_simp; exact ⟨Ext.refl _ _, rfl⟩)
              · intro a' w' hx hs hd
                obtain ⟨y, rfl⟩ := hx.ew
                have eg : a'.tmps[105]?.getD undef = _ := hd 36 105 rfl rfl
                first
                | (refine .inr ⟨unwanted_of (j := 36) (d := 105) rfl rfl eg (by rfl), ?_⟩; exact (rfl : (Mo.is undef).p undef y.on))
                | (refine .inr ⟨unwanted_und (j := 36) (d := 105) rfl rfl eg, ?_⟩; exact (rfl : (Mo.is undef).p undef y.on))
                | (have e12 : a'.tmps[12]?.getD undef = _ := hs 12 rfl; simp only [List.getElem?_toArray, List.getElem?_cons_succ, List.getElem?_cons_zero, Option.getD_some, Array.getElem?_eq_some_iff] at e12; refine .inl ⟨wanted_of (j := 36) (d := 105) rfl rfl eg, ?_⟩; clear hs hd hx eg; go_simp; exact ⟨Ext.refl _ _, rfl⟩)
              · intro a' w' hx hs hd
                obtain ⟨y, rfl⟩ := hx.ew
                have eg : a'.tmps[105]?.getD undef = _ := hd 36 105 rfl rfl
                first
                | (refine .inr ⟨unwanted_of (j := 36) (d := 105) rfl rfl eg (by rfl), ?_⟩; exact (rfl : (Mo.is undef).p undef y.on))
                | (refine .inr ⟨unwanted_und (j := 36) (d := 105) rfl rfl eg, ?_⟩; exact (rfl : (Mo.is undef).p undef y.on))
                | (have e106 : a'.tmps[106]?.getD undef = _ := hd 37 106 rfl rfl; have e107 : a'.tmps[107]?.getD undef = _ := hd 38 107 rfl rfl; refine .inl ⟨wanted_of (j := 36) (d := 105) rfl rfl eg, ?_⟩; clear hs hd hx eg; go_simp; exact ⟨Ext.refl _ _, rfl⟩)
              · intro a' w' hx hs hd
                obtain ⟨y, rfl⟩ := hx.ew
                have eg : a'.tmps[94]?.getD undef = _ := hd 25 94 rfl rfl
                first
                | (refine .inr ⟨unwanted_of (j := 25) (d := 94) rfl rfl eg (by rfl), ?_⟩; exact (rfl : (Mo.is undef).p undef y.on))
                | (refine .inr ⟨unwanted_und (j := 25) (d := 94) rfl rfl eg, ?_⟩; exact (rfl : (Mo.is undef).p undef y.on))
                | (have e105 : a'.tmps[105]?.getD undef = _ := hd 36 105 rfl rfl; have e108 : a'.tmps[108]?.getD undef = _ := hd 39 108 rfl rfl; refine .inl ⟨wanted_of (j := 25) (d := 94) rfl rfl eg, ?_⟩; clear hs hd hx eg; go_simp; exact ⟨Ext.refl _ _, rfl⟩)
              · intro a' w' hx hs hd
                obtain ⟨y, rfl⟩ := hx.ew
                have eg : a'.tmps[94]?.getD undef = _ := hd 25 94 rfl rfl
                first
                | (refine .inr ⟨unwanted_of (j := 25) (d := 94) rfl rfl eg (by rfl), ?_⟩; exact (rfl : (Mo.is undef).p undef y.on))
                | (refine .inr ⟨unwanted_und (j := 25) (d := 94) rfl rfl eg, ?_⟩; exact (rfl : (Mo.is undef).p undef y.on))
                | (have e109 : a'.tmps[109]?.getD undef = _ := hd 40 109 rfl rfl; refine .inl ⟨wanted_of (j := 25) (d := 94) rfl rfl eg, ?_⟩; clear hs hd hx eg; go_simp; exact ⟨Ext.refl _ _, rfl⟩)
              · intro a' w' hx hs hd
                obtain ⟨y, rfl⟩ := hx.ew
                have eg : a'.tmps[110]?.getD undef = _ := hd 41 110 rfl rfl
                first
                | (refine .inr ⟨unwanted_of (j := 41) (d := 110) rfl rfl eg (by rfl), ?_⟩; exact (rfl : (Mo.is undef).p undef y.on))
                | (refine .inr ⟨unwanted_und (j := 41) (d := 110) rfl rfl eg, ?_⟩; exact (rfl : (Mo.is undef).p undef y.on))
                | (have e5 : a'.tmps[5]?.getD undef = _ := hs 5 rfl; simp only [List.getElem?_toArray, List.getElem?_cons_succ, List.getElem?_cons_zero, Option.getD_some, Array.getElem?_eq_some_iff] at e5; refine .inl ⟨wanted_of (j := 41) (d := 110) rfl rfl eg, ?_⟩; clear hs hd hx eg; go_simp; exact ⟨Ext.refl _ _, rfl⟩)
              · intro a' w' hx hs hd
                obtain ⟨y, rfl⟩ := hx.ew
                have eg : a'.tmps[110]?.getD undef = _ := hd 41 110 rfl rfl
                first
                | (refine .inr ⟨unwanted_of (j := 41) (d := 110) rfl rfl eg (by rfl), ?_⟩; exact (rfl : (Mo.is undef).p undef y.on))
                | (refine .inr ⟨unwanted_und (j := 41) (d := 110) rfl rfl eg, ?_⟩; exact (rfl : (Mo.is undef).p undef y.on))
                | (have e111 : a'.tmps[111]?.getD undef = _ := hd 42 111 rfl rfl; refine .inl ⟨wanted_of (j := 41) (d := 110) rfl rfl eg, ?_⟩; clear hs hd hx eg; go_simp; exact (log_Certs b G2 g2 _ (HL10.out.extN (by (repeat (first | with_reducible exact Ext.refl _ _ | assumption | with_reducible refine Ext.upN ?_ | with_reducible refine Ext.alloc ?_ _ | with_reducible refine Ext.upA (by assumption) ?_ | with_reducible refine Ext.upW ?_ | with_reducible refine Ext.drew ?_ | with_reducible refine Ext.drewN ?_ _ | with_reducible refine Ext.upF ?_ | with_reducible refine Ext.upFF (by first | omega | simp) ?_ | with_reducible refine Ext.setCellsF _ _ _ (by first | omega | simp) ?_ | with_reducible refine Ext.setCellF _ _ _ (by first | omega | simp) ?_ | with_reducible refine Ext.upFN (by first | omega | simp) ?_ | with_reducible refine Ext.up1F (by first | omega | simp) ?_ | with_reducible refine Ext.up1N (by first | omega | simp) ?_ | with_reducible refine Ext.setCell ?_ (.inr (by first | omega | simp)) _ | refine Ext.alloc ?_ _ | refine Ext.setCellF _ _ _ (by first | omega | simp) ?_ | refine Ext.setCell ?_ (.inr (by first | omega | simp)) _)))) HV10.out.1.sigsB).mono (fun e w'' ⟨ra, rc, he, hR, hx⟩ => ⟨_, he, hx, ra, rc, rfl, hR⟩))
              · intro a' w' hx hs hd
                obtain ⟨y, rfl⟩ := hx.ew
                have eg : a'.tmps[110]?.getD undef = _ := hd 41 110 rfl rfl
                first
                | (refine .inr ⟨unwanted_of (j := 41) (d := 110) rfl rfl eg (by rfl), ?_⟩; exact (rfl : (Mo.is undef).p undef y.on))
                | (refine .inr ⟨unwanted_und (j := 41) (d := 110) rfl rfl eg, ?_⟩; exact (rfl : (Mo.is undef).p undef y.on))
                | (have e13 : a'.tmps[13]?.getD undef = _ := hs 13 rfl; simp only [List.getElem?_toArray, List.getElem?_cons_succ, List.getElem?_cons_zero, Option.getD_some, Array.getElem?_eq_some_iff] at e13; refine .inl ⟨wanted_of (j := 41) (d := 110) rfl rfl eg, ?_⟩; clear hs hd hx eg; go_simp; exact ⟨Ext.refl _ _, rfl⟩)
              · intro a' w' hx hs hd
                obtain ⟨y, rfl⟩ := hx.ew
                have eg : a'.tmps[110]?.getD undef = _ := hd 41 110 rfl rfl
                first
                | (refine .inr ⟨unwanted_of (j := 41) (d := 110) rfl rfl eg (by rfl), ?_⟩; exact (rfl : (Mo.is undef).p undef y.on))
                | (refine .inr ⟨unwanted_und (j := 41) (d := 110) rfl rfl eg, ?_⟩; exact (rfl : (Mo.is undef).p undef y.on))
                | (obtain ⟨ra2, rc2, e112, hR2⟩ : ∃ ra rc, a'.tmps[112]?.getD undef = .slice ra (certsG g2).length rc ∧ Certs y.on ra rc (certsG g2) := hd 43 112 rfl rfl; have e113 : a'.tmps[113]?.getD undef = _ := hd 44 113 rfl rfl; refine .inl ⟨wanted_of (j := 41) (d := 110) rfl rfl eg, ?_⟩; clear hs hd hx eg; go_simp; exact (ref13_SameCerts ra2 rc2 (certsG g2) ca cc (certsG g2) _ hR2 (HCt10.out.extN (by (repeat (first | with_reducible exact Ext.refl _ _ | assumption | with_reducible refine Ext.upN ?_ | with_reducible refine Ext.alloc ?_ _ | with_reducible refine Ext.upA (by assumption) ?_ | with_reducible refine Ext.upW ?_ | with_reducible refine Ext.drew ?_ | with_reducible refine Ext.drewN ?_ _ | with_reducible refine Ext.upF ?_ | with_reducible refine Ext.upFF (by first | omega | simp) ?_ | with_reducible refine Ext.setCellsF _ _ _ (by first | omega | simp) ?_ | with_reducible refine Ext.setCellF _ _ _ (by first | omega | simp) ?_ | with_reducible refine Ext.upFN (by first | omega | simp) ?_ | with_reducible refine Ext.up1F (by first | omega | simp) ?_ | with_reducible refine Ext.up1N (by first | omega | simp) ?_ | with_reducible refine Ext.setCell ?_ (.inr (by first | omega | simp)) _ | refine Ext.alloc ?_ _ | refine Ext.setCellF _ _ _ (by first | omega | simp) ?_ | refine Ext.setCell ?_ (.inr (by first | omega | simp)) _))))).mono (fun e w'' ⟨he, hx⟩ => ⟨.bool true, he.trans (congrArg _ (congrArg _ (certsEq_refl _))), hx, rfl⟩))
              · intro a' w' hx hs hd
                obtain ⟨y, rfl⟩ := hx.ew
                have eg : a'.tmps[110]?.getD undef = _ := hd 41 110 rfl rfl
                first
                | (refine .inr ⟨unwanted_of (j := 41) (d := 110) rfl rfl eg (by rfl), ?_⟩; exact (rfl : (Mo.is undef).p undef y.on))
                | (refine .inr ⟨unwanted_und (j := 41) (d := 110) rfl rfl eg, ?_⟩; exact (rfl : (Mo.is undef).p undef y.on))
                | (have e114 : a'.tmps[114]?.getD undef = _ := hd 45 114 rfl rfl; refine .inl ⟨wanted_of (j := 41) (d := 110) rfl rfl eg, ?_⟩; clear hs hd hx eg; go_simp; exact ⟨Ext.refl _ _, rfl⟩)
              · intro a' w' hx hs hd
                obtain ⟨y, rfl⟩ := hx.ew
                have eg : a'.tmps[94]?.getD undef = _ := hd 25 94 rfl rfl
                first
                | (refine .inr ⟨unwanted_of (j := 25) (d := 94) rfl rfl eg (by rfl), ?_⟩; exact (rfl : (Mo.is undef).p undef y.on))
                | (refine .inr ⟨unwanted_und (j := 25) (d := 94) rfl rfl eg, ?_⟩; exact (rfl : (Mo.is undef).p undef y.on))
                | (have e110 : a'.tmps[110]?.getD undef = _ := hd 41 110 rfl rfl; have e115 : a'.tmps[115]?.getD undef = _ := hd 46 115 rfl rfl; refine .inl ⟨wanted_of (j := 25) (d := 94) rfl rfl eg, ?_⟩; clear hs hd hx eg; go_simp; exact ⟨Ext.refl _ _, rfl⟩)
              · intro a' w' hx hs hd
                obtain ⟨y, rfl⟩ := hx.ew
                have eg : a'.tmps[91]?.getD undef = _ := hd 22 91 rfl rfl
                first
                | (refine .inr ⟨unwanted_of (j := 22) (d := 91) rfl rfl eg (by rfl), ?_⟩; exact (rfl : (Mo.is undef).p undef y.on))
                | (refine .inr ⟨unwanted_und (j := 22) (d := 91) rfl rfl eg, ?_⟩; exact (rfl : (Mo.is undef).p undef y.on))
                | (have e94 : a'.tmps[94]?.getD undef = _ := hd 25 94 rfl rfl; have e116 : a'.tmps[116]?.getD undef = _ := hd 47 116 rfl rfl; refine .inl ⟨wanted_of (j := 22) (d := 91) rfl rfl eg, ?_⟩; clear hs hd hx eg; go_simp; exact ⟨Ext.refl _ _, rfl⟩)
              · intro a' w' hx hs hd
                obtain ⟨y, rfl⟩ := hx.ew
                have e91 : a'.tmps[91]?.getD undef = _ := hd 22 91 rfl rfl
                have e117 : a'.tmps[117]?.getD undef = _ := hd 48 117 rfl rfl
                refine .inl ⟨rfl, ?_⟩
                clear hs hd hx
                go_simp
                exact ⟨Ext.refl _ _, rfl⟩
            case' q2 =>
              intro vs w' hx hRR
              obtain ⟨xq, rfl⟩ := hx.ew
              have q0 : vs 0 = _ := hRR 0 (by decide)
              have q1 : vs 1 = _ := hRR 1 (by decide)
              have q2 : vs 2 = _ := hRR 2 (by decide)
              have q3 : vs 3 = _ := hRR 3 (by decide)
              have q4 : vs 4 = _ := hRR 4 (by decide)
              have q5 : vs 5 = _ := hRR 5 (by decide)
              have q6 : vs 6 = _ := hRR 6 (by decide)
              have q7 : vs 7 = _ := hRR 7 (by decide)
              have q8 : vs 8 = _ := hRR 8 (by decide)
              have q9 : vs 9 = _ := hRR 9 (by decide)
              have q10 : vs 10 = _ := hRR 10 (by decide)
              have q11 : vs 11 = _ := hRR 11 (by decide)
              have q12 : vs 12 = _ := hRR 12 (by decide)
              have q13 : vs 13 = _ := hRR 13 (by decide)
              have q14 : vs 14 = _ := hRR 14 (by decide)
              have q15 : vs 15 = _ := hRR 15 (by decide)
              have q16 : vs 16 = _ := hRR 16 (by decide)
              have q17 : vs 17 = _ := hRR 17 (by decide)
              have q18 : vs 18 = _ := hRR 18 (by decide)
              have q19 : vs 19 = _ := hRR 19 (by decide)
              have q20 : vs 20 = _ := hRR 20 (by decide)
              have q21 : vs 21 = _ := hRR 21 (by decide)
              have q22 : vs 22 = _ := hRR 22 (by decide)
              have q23 : vs 23 = _ := hRR 23 (by decide)
              have q24 : vs 24 = _ := hRR 24 (by decide)
              have q25 : vs 25 = _ := hRR 25 (by decide)
              have q26 : vs 26 = _ := hRR 26 (by decide)
              have q27 : vs 27 = _ := hRR 27 (by decide)
              have q28 : vs 28 = _ := hRR 28 (by decide)
              have q29 : vs 29 = _ := hRR 29 (by decide)
              have q30 : vs 30 = _ := hRR 30 (by decide)
              have q31 : vs 31 = _ := hRR 31 (by decide)
              have q32 : vs 32 = _ := hRR 32 (by decide)
              have q33 : vs 33 = _ := hRR 33 (by decide)
              have q34 : vs 34 = _ := hRR 34 (by decide)
              have q35 : vs 35 = _ := hRR 35 (by decide)
              have q36 : vs 36 = _ := hRR 36 (by decide)
              have q37 : vs 37 = _ := hRR 37 (by decide)
              have q38 : vs 38 = _ := hRR 38 (by decide)
              have q39 : vs 39 = _ := hRR 39 (by decide)
              have q40 : vs 40 = _ := hRR 40 (by decide)
              have q41 : vs 41 = _ := hRR 41 (by decide)
              have q42 : vs 42 = _ := hRR 42 (by decide)
              obtain ⟨ra2, rc2, q43, hR2⟩ : ∃ ra rc, vs 43 = .slice ra (certsG g2).length rc ∧ Certs xq.on ra rc (certsG g2) := hRR 43 (by decide)
              have q44 : vs 44 = _ := hRR 44 (by decide)
              have q45 : vs 45 = _ := hRR 45 (by decide)
              have q46 : vs 46 = _ := hRR 46 (by decide)
              have q47 : vs 47 = _ := hRR 47 (by decide)
              have q48 : vs 48 = _ := hRR 48 (by decide)
              have q49 : vs 49 = _ := hRR 49 (by decide)
              clear hRR hx
              simp only [putAll, List.take_succ_cons, List.take_zero, List.drop_succ_cons, List.drop_zero, Act.put, List.setIfInBounds_toArray, List.set_cons_zero, List.set_cons_succ, Nat.reduceAdd, Nat.zero_add]
              simp only [q0, q1, q2, q3, q4, q5, q6, q7, q8, q9, q10, q11, q12, q13, q14, q15, q16, q17, q18, q19, q20, q21, q22, q23, q24, q25, q26, q27, q28, q29, q30, q31, q32, q33, q34, q35, q36, q37, q38, q39, q40, q41, q42, q43, q44, q45, q46, q47, q48, q49]
              clear q0 q1 q2 q3 q4 q5 q6 q7 q8 q9 q10 q11 q12 q13 q14 q15 q16 q17 q18 q19 q20 q21 q22 q23 q24 q25 q26 q27 q28 q29 q30 q31 q32 q33 q34 q35 q36 q37 q38 q39 q40 q41 q42 q43 q44 q45 q46 q47 q48 q49 vs
            clear hR2
          all_goals
            have X12 : Ext Non x12.on xq.on := by (repeat (first | with_reducible exact Ext.refl _ _ | assumption | with_reducible refine Ext.upN ?_ | with_reducible refine Ext.alloc ?_ _ | with_reducible refine Ext.upA (by assumption) ?_ | with_reducible refine Ext.upW ?_ | with_reducible refine Ext.drew ?_ | with_reducible refine Ext.drewN ?_ _ | with_reducible refine Ext.upF ?_ | with_reducible refine Ext.upFF (by first | omega | simp) ?_ | with_reducible refine Ext.setCellsF _ _ _ (by first | omega | simp) ?_ | with_reducible refine Ext.setCellF _ _ _ (by first | omega | simp) ?_ | with_reducible refine Ext.upFN (by first | omega | simp) ?_ | with_reducible refine Ext.up1F (by first | omega | simp) ?_ | with_reducible refine Ext.up1N (by first | omega | simp) ?_ | with_reducible refine Ext.setCell ?_ (.inr (by first | omega | simp)) _ | refine Ext.alloc ?_ _ | refine Ext.setCellF _ _ _ (by first | omega | simp) ?_ | refine Ext.setCell ?_ (.inr (by first | omega | simp)) _))
            have HLq := Go.Lib.hid (HL10.out.extN X12)
            have BCq := Go.Lib.hid (BC10.out.extN X12)
            go_wp2_with fail
            go_roundg (l.length - (i + 1))
            case measure => have := HN.out; omega
            case rel => exact ⟨i + 1, g2, G2, ⟨_, by (repeat (first | with_reducible exact Ext.refl _ _ | assumption | with_reducible refine Ext.upN ?_ | with_reducible refine Ext.alloc ?_ _ | with_reducible refine Ext.upA (by assumption) ?_ | with_reducible refine Ext.upW ?_ | with_reducible refine Ext.drew ?_ | with_reducible refine Ext.drewN ?_ _ | with_reducible refine Ext.upF ?_ | with_reducible refine Ext.upFF (by first | omega | simp) ?_ | with_reducible refine Ext.setCellsF _ _ _ (by first | omega | simp) ?_ | with_reducible refine Ext.setCellF _ _ _ (by first | omega | simp) ?_ | with_reducible refine Ext.upFN (by first | omega | simp) ?_ | with_reducible refine Ext.up1F (by first | omega | simp) ?_ | with_reducible refine Ext.up1N (by first | omega | simp) ?_ | with_reducible refine Ext.setCell ?_ (.inr (by first | omega | simp)) _ | refine Ext.alloc ?_ _ | refine Ext.setCellF _ _ _ (by first | omega | simp) ?_ | refine Ext.setCell ?_ (.inr (by first | omega | simp)) _))⟩, by omega, rfl, by go_num, rfl, HLq, HV10, HF10, BCq⟩
        · have HFD := Go.Lib.hid (HD2'.out rfl)
          clear HD2'
          refine (fun (h1 : d1 = false → er = 0 → _) (h2 : d1 = true → er = 0 → _) (h3 : d1 = true → er ≠ 0 → _) => Classical.byCases (p := er = 0) (fun h => by cases hd : d1; exact h1 hd h; exact h2 hd h) (fun h => h3 (P2 h).symm h)) ?stt1 ?stt2 ?stt3
          case' stt1 =>
            intro hd he
            subst hd
            subst he
            clear P1 P2
            (refine wp_region_ext_lit (by kernel_rfl) (by kernel_rfl) ?_; (repeat (go_big_quiet_step (((go_at_call 40; exact Calls.ext_of (sized_ext b G2 g2 s2 HS2.out _ (HL10.out.extN (by (repeat (first | with_reducible exact Ext.refl _ _ | assumption | with_reducible refine Ext.upN ?_ | with_reducible refine Ext.alloc ?_ _ | with_reducible refine Ext.upA (by assumption) ?_ | with_reducible refine Ext.upW ?_ | with_reducible refine Ext.drew ?_ | with_reducible refine Ext.drewN ?_ _ | with_reducible refine Ext.upF ?_ | with_reducible refine Ext.upFF (by first | omega | simp) ?_ | with_reducible refine Ext.setCellsF _ _ _ (by first | omega | simp) ?_ | with_reducible refine Ext.setCellF _ _ _ (by first | omega | simp) ?_ | with_reducible refine Ext.upFN (by first | omega | simp) ?_ | with_reducible refine Ext.up1F (by first | omega | simp) ?_ | with_reducible refine Ext.up1N (by first | omega | simp) ?_ | with_reducible refine Ext.setCell ?_ (.inr (by first | omega | simp)) _ | refine Ext.alloc ?_ _ | refine Ext.setCellF _ _ _ (by first | omega | simp) ?_ | refine Ext.setCell ?_ (.inr (by first | omega | simp)) _)))) HV10.out.1.fewB)))))); refine wpQuiet_nil ?_; intro _ hw'; obtain ⟨xq, hw''⟩ := hw'; subst hw'')
          case' stt2 =>
            intro hd he
            subst hd
            subst he
            have HWH := Go.Lib.hid (P1 rfl).2
            clear P1 P2
            (refine wp_region_ext_lit (by kernel_rfl) (by kernel_rfl) ?_; (repeat (go_big_quiet_step ((first | (go_at_call 22; exact Calls.ext_ofv (ref_Whole c1 s1 t1 key1 r1 id1 c2 s2' t2 key2 r2 id2 _) (congrArg Value.bool HWH.out)) | (go_at_call 40; exact Calls.ext_of (sized_ext b G2 g2 s2 HS2.out _ (HL10.out.extN (by (repeat (first | with_reducible exact Ext.refl _ _ | assumption | with_reducible refine Ext.upN ?_ | with_reducible refine Ext.alloc ?_ _ | with_reducible refine Ext.upA (by assumption) ?_ | with_reducible refine Ext.upW ?_ | with_reducible refine Ext.drew ?_ | with_reducible refine Ext.drewN ?_ _ | with_reducible refine Ext.upF ?_ | with_reducible refine Ext.upFF (by first | omega | simp) ?_ | with_reducible refine Ext.setCellsF _ _ _ (by first | omega | simp) ?_ | with_reducible refine Ext.setCellF _ _ _ (by first | omega | simp) ?_ | with_reducible refine Ext.upFN (by first | omega | simp) ?_ | with_reducible refine Ext.up1F (by first | omega | simp) ?_ | with_reducible refine Ext.up1N (by first | omega | simp) ?_ | with_reducible refine Ext.setCell ?_ (.inr (by first | omega | simp)) _ | refine Ext.alloc ?_ _ | refine Ext.setCellF _ _ _ (by first | omega | simp) ?_ | refine Ext.setCell ?_ (.inr (by first | omega | simp)) _)))) HV10.out.1.fewB)))))); refine wpQuiet_nil ?_; intro _ hw'; obtain ⟨xq, hw''⟩ := hw'; subst hw'')
          case' stt3 =>
            intro hd he
            subst hd
            have HWH := Go.Lib.hid (P1 rfl).2
            clear P1 P2
            have hg := HNO.out he
            have hz : s2 = sz := by rw [HSZ1.out, HS2.out, hg]
            subst hg
            subst hz
            have her : (er != 0) = true := by simpa using he
            clear he HNO
            apply wp_region_rel (relR [Mo.is _, Mo.is _, Mo.is _, Mo.is _, Mo.is _, Mo.is _, Mo.is _, Mo.is _, Mo.is _, Mo.is _, Mo.is _, Mo.is _, Mo.is _, Mo.is _, Mo.is _, Mo.is _, Mo.is _, Mo.is _, Mo.is _, Mo.is _, Mo.is _, Mo.is _, Mo.is _, Mo.is _, Mo.is _, Mo.is _, Mo.is _, Mo.is _, Mo.is _, Mo.is _, Mo.is _, Mo.is _, Mo.is _, Mo.is _, Mo.is _, Mo.is _, Mo.is _, Mo.is _, Mo.is _, Mo.is _, Mo.is _, Mo.is _, Mo.is _, moCs (certsG g2), Mo.is _, Mo.is _, Mo.is _, Mo.is _, Mo.is _, Mo.is _]) (by kernel_rfl) (by kernel_rfl) (by kernel_rfl) (relR_mono _) (StepD.all ?st3) ?q3
            case st3 =>
              refine ⟨?_, ?_, ?_, ?_, ?_, ?_, ?_, ?_, ?_, ?_, ?_, ?_, ?_, ?_, ?_, ?_, ?_, ?_, ?_, ?_, ?_, ?_, ?_, ?_, ?_, ?_, ?_, ?_, ?_, ?_, ?_, ?_, ?_, ?_, ?_, ?_, ?_, ?_, ?_, ?_, ?_, ?_, ?_, ?_, ?_, ?_, ?_, ?_, ?_, ?_, trivial⟩
              · intro a' w' hx hs hd
                obtain ⟨y, rfl⟩ := hx.ew
                have e12 : a'.tmps[12]?.getD undef = _ := hs 12 rfl
                simp only [List.getElem?_toArray, List.getElem?_cons_succ, List.getElem?_cons_zero, Option.getD_some, Array.getElem?_eq_some_iff] at e12
                refine .inl ⟨rfl, ?_⟩
                clear hs hd hx
                go_simp
                exact ⟨Ext.refl _ _, rfl⟩
              · intro a' w' hx hs hd
                obtain ⟨y, rfl⟩ := hx.ew
                have e69 : a'.tmps[69]?.getD undef = _ := hd 0 69 rfl rfl
                refine .inl ⟨rfl, ?_⟩
                clear hs hd hx
                go_simp
                exact ⟨Ext.refl _ _, rfl⟩
              · intro a' w' hx hs hd
                obtain ⟨y, rfl⟩ := hx.ew
                have eg : a'.tmps[70]?.getD undef = _ := hd 1 70 rfl rfl
                first
                | (refine .inr ⟨unwanted_of (j := 1) (d := 70) rfl rfl eg (by rfl), ?_⟩; exact (rfl : (Mo.is undef).p undef y.on))
                | (refine .inr ⟨unwanted_und (j := 1) (d := 70) rfl rfl eg, ?_⟩; exact (rfl : (Mo.is undef).p undef y.on))
                | (have e16 : a'.tmps[16]?.getD undef = _ := hs 16 rfl; simp only [List.getElem?_toArray, List.getElem?_cons_succ, List.getElem?_cons_zero, Option.getD_some, Array.getElem?_eq_some_iff] at e16; refine .inl ⟨wanted_of (j := 1) (d := 70) rfl rfl eg, ?_⟩; clear hs hd hx eg; go_simp; exact ⟨Ext.refl _ _, rfl⟩)
              · intro a' w' hx hs hd
                obtain ⟨y, rfl⟩ := hx.ew
                have eg : a'.tmps[70]?.getD undef = _ := hd 1 70 rfl rfl
                first
                | (refine .inr ⟨unwanted_of (j := 1) (d := 70) rfl rfl eg (by rfl), ?_⟩; exact (rfl : (Mo.is undef).p undef y.on))
                | (refine .inr ⟨unwanted_und (j := 1) (d := 70) rfl rfl eg, ?_⟩; exact (rfl : (Mo.is undef).p undef y.on))
                | (have e71 : a'.tmps[71]?.getD undef = _ := hd 2 71 rfl rfl; refine .inl ⟨wanted_of (j := 1) (d := 70) rfl rfl eg, ?_⟩; clear hs hd hx eg; go_simp; exact ⟨Ext.refl _ _, rfl⟩)
              · intro a' w' hx hs hd
                obtain ⟨y, rfl⟩ := hx.ew
                have eg : a'.tmps[70]?.getD undef = _ := hd 1 70 rfl rfl
                first
                | (refine .inr ⟨unwanted_of (j := 1) (d := 70) rfl rfl eg (by rfl), ?_⟩; exact (rfl : (Mo.is undef).p undef y.on))
                | (refine .inr ⟨unwanted_und (j := 1) (d := 70) rfl rfl eg, ?_⟩; exact (rfl : (Mo.is undef).p undef y.on))
                | (have e72 : a'.tmps[72]?.getD undef = _ := hd 3 72 rfl rfl; refine .inl ⟨wanted_of (j := 1) (d := 70) rfl rfl eg, ?_⟩; clear hs hd hx eg; go_simp; exact ⟨Ext.refl _ _, rfl⟩)
              · intro a' w' hx hs hd
                obtain ⟨y, rfl⟩ := hx.ew
                have eg : a'.tmps[73]?.getD undef = _ := hd 4 73 rfl rfl
                first
                | (refine .inr ⟨unwanted_of (j := 4) (d := 73) rfl rfl eg (by rfl), ?_⟩; exact (rfl : (Mo.is undef).p undef y.on))
                | (refine .inr ⟨unwanted_und (j := 4) (d := 73) rfl rfl eg, ?_⟩; exact (rfl : (Mo.is undef).p undef y.on))
                | (have e11 : a'.tmps[11]?.getD undef = _ := hs 11 rfl; simp only [List.getElem?_toArray, List.getElem?_cons_succ, List.getElem?_cons_zero, Option.getD_some, Array.getElem?_eq_some_iff] at e11; refine .inl ⟨wanted_of (j := 4) (d := 73) rfl rfl eg, ?_⟩; clear hs hd hx eg; go_simp; exact ⟨Ext.refl _ _, rfl⟩)
              · intro a' w' hx hs hd
                obtain ⟨y, rfl⟩ := hx.ew
                have eg : a'.tmps[73]?.getD undef = _ := hd 4 73 rfl rfl
                first
                | (refine .inr ⟨unwanted_of (j := 4) (d := 73) rfl rfl eg (by rfl), ?_⟩; exact (rfl : (Mo.is undef).p undef y.on))
                | (refine .inr ⟨unwanted_und (j := 4) (d := 73) rfl rfl eg, ?_⟩; exact (rfl : (Mo.is undef).p undef y.on))
                | (have e15 : a'.tmps[15]?.getD undef = _ := hs 15 rfl; simp only [List.getElem?_toArray, List.getElem?_cons_succ, List.getElem?_cons_zero, Option.getD_some, Array.getElem?_eq_some_iff] at e15; refine .inl ⟨wanted_of (j := 4) (d := 73) rfl rfl eg, ?_⟩; clear hs hd hx eg; go_simp; exact ⟨Ext.refl _ _, rfl⟩)
              · intro a' w' hx hs hd
                obtain ⟨y, rfl⟩ := hx.ew
                have eg : a'.tmps[73]?.getD undef = _ := hd 4 73 rfl rfl
                first
                | (refine .inr ⟨unwanted_of (j := 4) (d := 73) rfl rfl eg (by rfl), ?_⟩; exact (rfl : (Mo.is undef).p undef y.on))
                | (refine .inr ⟨unwanted_und (j := 4) (d := 73) rfl rfl eg, ?_⟩; exact (rfl : (Mo.is undef).p undef y.on))
                | (have e74 : a'.tmps[74]?.getD undef = _ := hd 5 74 rfl rfl; have e75 : a'.tmps[75]?.getD undef = _ := hd 6 75 rfl rfl; refine .inl ⟨wanted_of (j := 4) (d := 73) rfl rfl eg, ?_⟩; clear hs hd hx eg; go_simp; exact (ref_Whole c1 s1 t1 key1 r1 id1 c2 s2' t2 key2 r2 id2 _).mono (fun e w'' ⟨he, hx⟩ => ⟨.bool true, he.trans (congrArg _ (congrArg _ HWH.out)), hx, rfl⟩))
              · intro a' w' hx hs hd
                obtain ⟨y, rfl⟩ := hx.ew
                have eg : a'.tmps[73]?.getD undef = _ := hd 4 73 rfl rfl
                first
                | (refine .inr ⟨unwanted_of (j := 4) (d := 73) rfl rfl eg (by rfl), ?_⟩; exact (rfl : (Mo.is undef).p undef y.on))
                | (refine .inr ⟨unwanted_und (j := 4) (d := 73) rfl rfl eg, ?_⟩; exact (rfl : (Mo.is undef).p undef y.on))
                | (have e76 : a'.tmps[76]?.getD undef = _ := hd 7 76 rfl rfl; refine .inl ⟨wanted_of (j := 4) (d := 73) rfl rfl eg, ?_⟩; clear hs hd hx eg; go_simp; exact ⟨Ext.refl _ _, rfl⟩)
              · intro a' w' hx hs hd
                obtain ⟨y, rfl⟩ := hx.ew
                have eg : a'.tmps[70]?.getD undef = _ := hd 1 70 rfl rfl
                first
                | (refine .inr ⟨unwanted_of (j := 1) (d := 70) rfl rfl eg (by rfl), ?_⟩; exact (rfl : (Mo.is undef).p undef y.on))
                | (refine .inr ⟨unwanted_und (j := 1) (d := 70) rfl rfl eg, ?_⟩; exact (rfl : (Mo.is undef).p undef y.on))
                | (have e73 : a'.tmps[73]?.getD undef = _ := hd 4 73 rfl rfl; have e77 : a'.tmps[77]?.getD undef = _ := hd 8 77 rfl rfl; refine .inl ⟨wanted_of (j := 1) (d := 70) rfl rfl eg, ?_⟩; clear hs hd hx eg; go_simp; exact ⟨Ext.refl _ _, rfl⟩)
              · intro a' w' hx hs hd
                obtain ⟨y, rfl⟩ := hx.ew
                have e70 : a'.tmps[70]?.getD undef = _ := hd 1 70 rfl rfl
                have e78 : a'.tmps[78]?.getD undef = _ := hd 9 78 rfl rfl
                refine .inl ⟨rfl, ?_⟩
                clear hs hd hx
                go_simp
                exact ⟨Ext.refl _ _, rfl⟩
              · intro a' w' hx hs hd
                obtain ⟨y, rfl⟩ := hx.ew
                have e79 : a'.tmps[79]?.getD undef = _ := hd 10 79 rfl rfl
                refine .inl ⟨rfl, ?_⟩
                clear hs hd hx
                go_simp
                exact ⟨Ext.refl _ _, rfl⟩
              · intro a' w' hx hs hd
                obtain ⟨y, rfl⟩ := hx.ew
                have eg : a'.tmps[80]?.getD undef = _ := hd 11 80 rfl rfl
                first
                | (refine .inr ⟨unwanted_of (j := 11) (d := 80) rfl rfl eg (by rfl), ?_⟩; exact (rfl : (Mo.is undef).p undef y.on))
                | (refine .inr ⟨unwanted_und (j := 11) (d := 80) rfl rfl eg, ?_⟩; exact (rfl : (Mo.is undef).p undef y.on))
                | (have e5 : a'.tmps[5]?.getD undef = _ := hs 5 rfl; simp only [List.getElem?_toArray, List.getElem?_cons_succ, List.getElem?_cons_zero, Option.getD_some, Array.getElem?_eq_some_iff] at e5; refine .inl ⟨wanted_of (j := 11) (d := 80) rfl rfl eg, ?_⟩; clear hs hd hx eg; go_simp; exact ⟨Ext.refl _ _, rfl⟩)
              · intro a' w' hx hs hd
                obtain ⟨y, rfl⟩ := hx.ew
                have eg : a'.tmps[80]?.getD undef = _ := hd 11 80 rfl rfl
                first
                | (refine .inr ⟨unwanted_of (j := 11) (d := 80) rfl rfl eg (by rfl), ?_⟩; exact (rfl : (Mo.is undef).p undef y.on))
                | (refine .inr ⟨unwanted_und (j := 11) (d := 80) rfl rfl eg, ?_⟩; exact (rfl : (Mo.is undef).p undef y.on))
                | (have e81 : a'.tmps[81]?.getD undef = _ := hd 12 81 rfl rfl; refine .inl ⟨wanted_of (j := 11) (d := 80) rfl rfl eg, ?_⟩; clear hs hd hx eg; go_simp; exact (sized_ext b G2 g2 s2 HS2.out _ (HL10.out.extN (by (repeat (first | with_reducible exact Ext.refl _ _ | assumption | with_reducible refine Ext.upN ?_ | with_reducible refine Ext.alloc ?_ _ | with_reducible refine Ext.upA (by assumption) ?_ | with_reducible refine Ext.upW ?_ | with_reducible refine Ext.drew ?_ | with_reducible refine Ext.drewN ?_ _ | with_reducible refine Ext.upF ?_ | with_reducible refine Ext.upFF (by first | omega | simp) ?_ | with_reducible refine Ext.setCellsF _ _ _ (by first | omega | simp) ?_ | with_reducible refine Ext.setCellF _ _ _ (by first | omega | simp) ?_ | with_reducible refine Ext.upFN (by first | omega | simp) ?_ | with_reducible refine Ext.up1F (by first | omega | simp) ?_ | with_reducible refine Ext.up1N (by first | omega | simp) ?_ | with_reducible refine Ext.setCell ?_ (.inr (by first | omega | simp)) _ | refine Ext.alloc ?_ _ | refine Ext.setCellF _ _ _ (by first | omega | simp) ?_ | refine Ext.setCell ?_ (.inr (by first | omega | simp)) _)))) HV10.out.1.fewB).mono (fun e w'' ⟨he, hx⟩ => ⟨_, he, hx, rfl⟩))
              · intro a' w' hx hs hd
                obtain ⟨y, rfl⟩ := hx.ew
                have eg : a'.tmps[80]?.getD undef = _ := hd 11 80 rfl rfl
                first
                | (refine .inr ⟨unwanted_of (j := 11) (d := 80) rfl rfl eg (by rfl), ?_⟩; exact (rfl : (Mo.is undef).p undef y.on))
                | (refine .inr ⟨unwanted_und (j := 11) (d := 80) rfl rfl eg, ?_⟩; exact (rfl : (Mo.is undef).p undef y.on))
                | (have e2 : a'.tmps[2]?.getD undef = _ := hs 2 rfl; simp only [List.getElem?_toArray, List.getElem?_cons_succ, List.getElem?_cons_zero, Option.getD_some, Array.getElem?_eq_some_iff] at e2; refine .inl ⟨wanted_of (j := 11) (d := 80) rfl rfl eg, ?_⟩; clear hs hd hx eg; go_simp; exact ⟨Ext.refl _ _, rfl⟩)
              · intro a' w' hx hs hd
                obtain ⟨y, rfl⟩ := hx.ew
                have eg : a'.tmps[80]?.getD undef = _ := hd 11 80 rfl rfl
                first
                | (refine .inr ⟨unwanted_of (j := 11) (d := 80) rfl rfl eg (by rfl), ?_⟩; exact (rfl : (Mo.is undef).p undef y.on))
                | (refine .inr ⟨unwanted_und (j := 11) (d := 80) rfl rfl eg, ?_⟩; exact (rfl : (Mo.is undef).p undef y.on))
                | (have e83 : a'.tmps[83]?.getD undef = _ := hd 14 83 rfl rfl; refine .inl ⟨wanted_of (j := 11) (d := 80) rfl rfl eg, ?_⟩; clear hs hd hx eg; go_simp; exact ⟨Ext.refl _ _, rfl⟩)
              · intro a' w' hx hs hd
                obtain ⟨y, rfl⟩ := hx.ew
                have eg : a'.tmps[80]?.getD undef = _ := hd 11 80 rfl rfl
                first
                | (refine .inr ⟨unwanted_of (j := 11) (d := 80) rfl rfl eg (by rfl), ?_⟩; exact (rfl : (Mo.is undef).p undef y.on))
                | (refine .inr ⟨unwanted_und (j := 11) (d := 80) rfl rfl eg, ?_⟩; exact (rfl : (Mo.is undef).p undef y.on))
                | (have e84 : a'.tmps[84]?.getD undef = _ := hd 15 84 rfl rfl; refine .inl ⟨wanted_of (j := 11) (d := 80) rfl rfl eg, ?_⟩; clear hs hd hx eg; go_simp; exact ⟨Ext.refl _ _, rfl⟩)
              · intro a' w' hx hs hd
                obtain ⟨y, rfl⟩ := hx.ew
                have eg : a'.tmps[80]?.getD undef = _ := hd 11 80 rfl rfl
                first
                | (refine .inr ⟨unwanted_of (j := 11) (d := 80) rfl rfl eg (by rfl), ?_⟩; exact (rfl : (Mo.is undef).p undef y.on))
                | (refine .inr ⟨unwanted_und (j := 11) (d := 80) rfl rfl eg, ?_⟩; exact (rfl : (Mo.is undef).p undef y.on))
                | (have e85 : a'.tmps[85]?.getD undef = _ := hd 16 85 rfl rfl; refine .inl ⟨wanted_of (j := 11) (d := 80) rfl rfl eg, ?_⟩; clear hs hd hx eg; go_simp; exact ⟨Ext.refl _ _, rfl⟩)
              · intro a' w' hx hs hd
                obtain ⟨y, rfl⟩ := hx.ew
                have eg : a'.tmps[80]?.getD undef = _ := hd 11 80 rfl rfl
                first
                | (refine .inr ⟨unwanted_of (j := 11) (d := 80) rfl rfl eg (by rfl), ?_⟩; exact (rfl : (Mo.is undef).p undef y.on))
                | (refine .inr ⟨unwanted_und (j := 11) (d := 80) rfl rfl eg, ?_⟩; exact (rfl : (Mo.is undef).p undef y.on))
                | (have e86 : a'.tmps[86]?.getD undef = _ := hd 17 86 rfl rfl; refine .inl ⟨wanted_of (j := 11) (d := 80) rfl rfl eg, ?_⟩; clear hs hd hx eg; go_simp; exact ⟨Ext.refl _ _, rfl⟩)
              · intro a' w' hx hs hd
                obtain ⟨y, rfl⟩ := hx.ew
                have eg : a'.tmps[80]?.getD undef = _ := hd 11 80 rfl rfl
                first
                | (refine .inr ⟨unwanted_of (j := 11) (d := 80) rfl rfl eg (by rfl), ?_⟩; exact (rfl : (Mo.is undef).p undef y.on))
                | (refine .inr ⟨unwanted_und (j := 11) (d := 80) rfl rfl eg, ?_⟩; exact (rfl : (Mo.is undef).p undef y.on))
                | (have e87 : a'.tmps[87]?.getD undef = _ := hd 18 87 rfl rfl; refine .inl ⟨wanted_of (j := 11) (d := 80) rfl rfl eg, ?_⟩; clear hs hd hx eg; go_simp; exact ⟨Ext.refl _ _, rfl⟩)
              · intro a' w' hx hs hd
                obtain ⟨y, rfl⟩ := hx.ew
                have eg : a'.tmps[80]?.getD undef = _ := hd 11 80 rfl rfl
                first
                | (refine .inr ⟨unwanted_of (j := 11) (d := 80) rfl rfl eg (by rfl), ?_⟩; exact (rfl : (Mo.is undef).p undef y.on))
                | (refine .inr ⟨unwanted_und (j := 11) (d := 80) rfl rfl eg, ?_⟩; exact (rfl : (Mo.is undef).p undef y.on))
                | (have e82 : a'.tmps[82]?.getD undef = _ := hd 13 82 rfl rfl; have e88 : a'.tmps[88]?.getD undef = _ := hd 19 88 rfl rfl; refine .inl ⟨wanted_of (j := 11) (d := 80) rfl rfl eg, ?_⟩; clear hs hd hx eg; go_simp; exact ⟨Ext.refl _ _, rfl⟩)
              · intro a' w' hx hs hd
                obtain ⟨y, rfl⟩ := hx.ew
                have e80 : a'.tmps[80]?.getD undef = _ := hd 11 80 rfl rfl
                have e89 : a'.tmps[89]?.getD undef = _ := hd 20 89 rfl rfl
                refine .inl ⟨rfl, ?_⟩
                clear hs hd hx
                go_simp
                exact ⟨Ext.refl _ _, rfl⟩
              · intro a' w' hx hs hd
                obtain ⟨y, rfl⟩ := hx.ew
                have e90 : a'.tmps[90]?.getD undef = _ := hd 21 90 rfl rfl
                refine .inl ⟨rfl, ?_⟩
                clear hs hd hx
                go_simp
                exact ⟨Ext.refl _ _, rfl⟩
              · intro a' w' hx hs hd
                obtain ⟨y, rfl⟩ := hx.ew
                have eg : a'.tmps[91]?.getD undef = _ := hd 22 91 rfl rfl
                first
                | (refine .inr ⟨unwanted_of (j := 22) (d := 91) rfl rfl eg (by rfl), ?_⟩; exact (rfl : (Mo.is undef).p undef y.on))
                | (refine .inr ⟨unwanted_und (j := 22) (d := 91) rfl rfl eg, ?_⟩; exact (rfl : (Mo.is undef).p undef y.on))
                | (have e14 : a'.tmps[14]?.getD undef = _ := hs 14 rfl; simp only [List.getElem?_toArray, List.getElem?_cons_succ, List.getElem?_cons_zero, Option.getD_some, Array.getElem?_eq_some_iff] at e14; refine .inl ⟨wanted_of (j := 22) (d := 91) rfl rfl eg, ?_⟩; clear hs hd hx eg; go_simp; exact ⟨Ext.refl _ _, rfl⟩)
              · intro a' w' hx hs hd
                obtain ⟨y, rfl⟩ := hx.ew
                have eg : a'.tmps[91]?.getD undef = _ := hd 22 91 rfl rfl
                first
                | (refine .inr ⟨unwanted_of (j := 22) (d := 91) rfl rfl eg (by rfl), ?_⟩; exact (rfl : (Mo.is undef).p undef y.on))
                | (refine .inr ⟨unwanted_und (j := 22) (d := 91) rfl rfl eg, ?_⟩; exact (rfl : (Mo.is undef).p undef y.on))
                | (have e92 : a'.tmps[92]?.getD undef = _ := hd 23 92 rfl rfl; refine .inl ⟨wanted_of (j := 22) (d := 91) rfl rfl eg, ?_⟩; clear hs hd hx eg; go_simp; exact ⟨Ext.refl _ _, rfl⟩)
              · intro a' w' hx hs hd
                obtain ⟨y, rfl⟩ := hx.ew
                have eg : a'.tmps[91]?.getD undef = _ := hd 22 91 rfl rfl
                first
                | (refine .inr ⟨unwanted_of (j := 22) (d := 91) rfl rfl eg (by rfl), ?_⟩; exact (rfl : (Mo.is undef).p undef y.on))
                | (refine .inr ⟨unwanted_und (j := 22) (d := 91) rfl rfl eg, ?_⟩; exact (rfl : (Mo.is undef).p undef y.on))
                | (have e93 : a'.tmps[93]?.getD undef = _ := hd 24 93 rfl rfl; refine .inl ⟨wanted_of (j := 22) (d := 91) rfl rfl eg, ?_⟩; clear hs hd hx eg; go_simp; exact ⟨Ext.refl _ _, rfl⟩)
              · intro a' w' hx hs hd
                obtain ⟨y, rfl⟩ := hx.ew
                have eg : a'.tmps[94]?.getD undef = _ := hd 25 94 rfl rfl
                first
                | (refine .inr ⟨unwanted_of (j := 25) (d := 94) rfl rfl eg (by rfl), ?_⟩; exact (rfl : (Mo.is undef).p undef y.on))
                | (refine .inr ⟨unwanted_und (j := 25) (d := 94) rfl rfl eg, ?_⟩; exact (rfl : (Mo.is undef).p undef y.on))
                | (have e5 : a'.tmps[5]?.getD undef = _ := hs 5 rfl; simp only [List.getElem?_toArray, List.getElem?_cons_succ, List.getElem?_cons_zero, Option.getD_some, Array.getElem?_eq_some_iff] at e5; refine .inl ⟨wanted_of (j := 25) (d := 94) rfl rfl eg, ?_⟩; clear hs hd hx eg; go_simp; exact ⟨Ext.refl _ _, rfl⟩)
              · intro a' w' hx hs hd
                obtain ⟨y, rfl⟩ := hx.ew
                have eg : a'.tmps[94]?.getD undef = _ := hd 25 94 rfl rfl
                first
                | (refine .inr ⟨unwanted_of (j := 25) (d := 94) rfl rfl eg (by rfl), ?_⟩; exact (rfl : (Mo.is undef).p undef y.on))
                | (refine .inr ⟨unwanted_und (j := 25) (d := 94) rfl rfl eg, ?_⟩; exact (rfl : (Mo.is undef).p undef y.on))
                | (have e95 : a'.tmps[95]?.getD undef = _ := hd 26 95 rfl rfl; refine .inl ⟨wanted_of (j := 25) (d := 94) rfl rfl eg, ?_⟩; clear hs hd hx eg; go_simp; exact (sized_ext b G2 g2 s2 HS2.out _ (HL10.out.extN (by (repeat (first | with_reducible exact Ext.refl _ _ | assumption | with_reducible refine Ext.upN ?_ | with_reducible refine Ext.alloc ?_ _ | with_reducible refine Ext.upA (by assumption) ?_ | with_reducible refine Ext.upW ?_ | with_reducible refine Ext.drew ?_ | with_reducible refine Ext.drewN ?_ _ | with_reducible refine Ext.upF ?_ | with_reducible refine Ext.upFF (by first | omega | simp) ?_ | with_reducible refine Ext.setCellsF _ _ _ (by first | omega | simp) ?_ | with_reducible refine Ext.setCellF _ _ _ (by first | omega | simp) ?_ | with_reducible refine Ext.upFN (by first | omega | simp) ?_ | with_reducible refine Ext.up1F (by first | omega | simp) ?_ | with_reducible refine Ext.up1N (by first | omega | simp) ?_ | with_reducible refine Ext.setCell ?_ (.inr (by first | omega | simp)) _ | refine Ext.alloc ?_ _ | refine Ext.setCellF _ _ _ (by first | omega | simp) ?_ | refine Ext.setCell ?_ (.inr (by first | omega | simp)) _)))) HV10.out.1.fewB).mono (fun e w'' ⟨he, hx⟩ => ⟨_, he, hx, rfl⟩))
              · intro a' w' hx hs hd
                obtain ⟨y, rfl⟩ := hx.ew
                have eg : a'.tmps[94]?.getD undef = _ := hd 25 94 rfl rfl
                first
                | (refine .inr ⟨unwanted_of (j := 25) (d := 94) rfl rfl eg (by rfl), ?_⟩; exact (rfl : (Mo.is undef).p undef y.on))
                | (refine .inr ⟨unwanted_und (j := 25) (d := 94) rfl rfl eg, ?_⟩; exact (rfl : (Mo.is undef).p undef y.on))
                | (have e9 : a'.tmps[9]?.getD undef = _ := hs 9 rfl; simp only [List.getElem?_toArray, List.getElem?_cons_succ, List.getElem?_cons_zero, Option.getD_some, Array.getElem?_eq_some_iff] at e9; refine .inl ⟨wanted_of (j := 25) (d := 94) rfl rfl eg, ?_⟩; clear hs hd hx eg; go_simp; exact ⟨Ext.refl _ _, rfl⟩)
              · intro a' w' hx hs hd
                obtain ⟨y, rfl⟩ := hx.ew
                have eg : a'.tmps[94]?.getD undef = _ := hd 25 94 rfl rfl
                first
                | (refine .inr ⟨unwanted_of (j := 25) (d := 94) rfl rfl eg (by rfl), ?_⟩; exact (rfl : (Mo.is undef).p undef y.on))
                | (refine .inr ⟨unwanted_und (j := 25) (d := 94) rfl rfl eg, ?_⟩; exact (rfl : (Mo.is undef).p undef y.on))
                | (have e96 : a'.tmps[96]?.getD undef = _ := hd 27 96 rfl rfl; have e97 : a'.tmps[97]?.getD undef = _ := hd 28 97 rfl rfl; refine .inl ⟨wanted_of (j := 25) (d := 94) rfl rfl eg, ?_⟩; clear hs hd hx eg; go_simp; exact ⟨Ext.refl _ _, rfl⟩)
              · intro a' w' hx hs hd
                obtain ⟨y, rfl⟩ := hx.ew
                have eg : a'.tmps[94]?.getD undef = _ := hd 25 94 rfl rfl
                first
                | (refine .inr ⟨unwanted_of (j := 25) (d := 94) rfl rfl eg (by rfl), ?_⟩; exact (rfl : (Mo.is undef).p undef y.on))
                | (refine .inr ⟨unwanted_und (j := 25) (d := 94) rfl rfl eg, ?_⟩; exact (rfl : (Mo.is undef).p undef y.on))
                | (have e98 : a'.tmps[98]?.getD undef = _ := hd 29 98 rfl rfl; refine .inl ⟨wanted_of (j := 25) (d := 94) rfl rfl eg, ?_⟩; clear hs hd hx eg; go_simp; exact ⟨Ext.refl _ _, rfl⟩)
              · intro a' w' hx hs hd
                obtain ⟨y, rfl⟩ := hx.ew
                have eg : a'.tmps[99]?.getD undef = _ := hd 30 99 rfl rfl
                first
                | (refine .inr ⟨unwanted_of (j := 30) (d := 99) rfl rfl eg (by rfl), ?_⟩; exact (rfl : (Mo.is undef).p undef y.on))
                | (refine .inr ⟨unwanted_und (j := 30) (d := 99) rfl rfl eg, ?_⟩; exact (rfl : (Mo.is undef).p undef y.on))
                | (have e5 : a'.tmps[5]?.getD undef = _ := hs 5 rfl; simp only [List.getElem?_toArray, List.getElem?_cons_succ, List.getElem?_cons_zero, Option.getD_some, Array.getElem?_eq_some_iff] at e5; refine .inl ⟨wanted_of (j := 30) (d := 99) rfl rfl eg, ?_⟩; clear hs hd hx eg; go_simp; exact ⟨Ext.refl _ _, rfl⟩)
              · intro a' w' hx hs hd
                obtain ⟨y, rfl⟩ := hx.ew
                have eg : a'.tmps[99]?.getD undef = _ := hd 30 99 rfl rfl
                first
                | (refine .inr ⟨unwanted_of (j := 30) (d := 99) rfl rfl eg (by rfl), ?_⟩; exact (rfl : (Mo.is undef).p undef y.on))
                | (refine .inr ⟨unwanted_und (j := 30) (d := 99) rfl rfl eg, ?_⟩; exact (rfl : (Mo.is undef).p undef y.on))
                | (have e100 : a'.tmps[100]?.getD undef = _ := hd 31 100 rfl rfl; refine .inl ⟨wanted_of (j := 30) (d := 99) rfl rfl eg, ?_⟩; clear hs hd hx eg; go_simp; exact (viewd_ext b G2 g2 vw HVW1.out _ (HL10.out.extN (by (repeat (first | with_reducible exact Ext.refl _ _ | assumption | with_reducible refine Ext.upN ?_ | with_reducible refine Ext.alloc ?_ _ | with_reducible refine Ext.upA (by assumption) ?_ | with_reducible refine Ext.upW ?_ | with_reducible refine Ext.drew ?_ | with_reducible refine Ext.drewN ?_ _ | with_reducible refine Ext.upF ?_ | with_reducible refine Ext.upFF (by first | omega | simp) ?_ | with_reducible refine Ext.setCellsF _ _ _ (by first | omega | simp) ?_ | with_reducible refine Ext.setCellF _ _ _ (by first | omega | simp) ?_ | with_reducible refine Ext.upFN (by first | omega | simp) ?_ | with_reducible refine Ext.up1F (by first | omega | simp) ?_ | with_reducible refine Ext.up1N (by first | omega | simp) ?_ | with_reducible refine Ext.setCell ?_ (.inr (by first | omega | simp)) _ | refine Ext.alloc ?_ _ | refine Ext.setCellF _ _ _ (by first | omega | simp) ?_ | refine Ext.setCell ?_ (.inr (by first | omega | simp)) _))))).mono (fun e w'' ⟨he, hx⟩ => ⟨_, he, hx, rfl⟩))
              · intro a' w' hx hs hd
                obtain ⟨y, rfl⟩ := hx.ew
                have eg : a'.tmps[99]?.getD undef = _ := hd 30 99 rfl rfl
                first
                | (refine .inr ⟨unwanted_of (j := 30) (d := 99) rfl rfl eg (by rfl), ?_⟩; exact (rfl : (Mo.is undef).p undef y.on))
                | (refine .inr ⟨unwanted_und (j := 30) (d := 99) rfl rfl eg, ?_⟩; exact (rfl : (Mo.is undef).p undef y.on))
                | (have e10 : a'.tmps[10]?.getD undef = _ := hs 10 rfl; simp only [List.getElem?_toArray, List.getElem?_cons_succ, List.getElem?_cons_zero, Option.getD_some, Array.getElem?_eq_some_iff] at e10; refine .inl ⟨wanted_of (j := 30) (d := 99) rfl rfl eg, ?_⟩; clear hs hd hx eg; go_simp; exact ⟨Ext.refl _ _, rfl⟩)
              · intro a' w' hx hs hd
                obtain ⟨y, rfl⟩ := hx.ew
                have eg : a'.tmps[99]?.getD undef = _ := hd 30 99 rfl rfl
                first
                | (refine .inr ⟨unwanted_of (j := 30) (d := 99) rfl rfl eg (by rfl), ?_⟩; exact (rfl : (Mo.is undef).p undef y.on))
                | (refine .inr ⟨unwanted_und (j := 30) (d := 99) rfl rfl eg, ?_⟩; exact (rfl : (Mo.is undef).p undef y.on))
                | (have e101 : a'.tmps[101]?.getD undef = _ := hd 32 101 rfl rfl; have e102 : a'.tmps[102]?.getD undef = _ := hd 33 102 rfl rfl; refine .inl ⟨wanted_of (j := 30) (d := 99) rfl rfl eg, ?_⟩; clear hs hd hx eg; go_simp; exact ⟨Ext.refl _ _, rfl⟩)
              · intro a' w' hx hs hd
                obtain ⟨y, rfl⟩ := hx.ew
                have eg : a'.tmps[94]?.getD undef = _ := hd 25 94 rfl rfl
                first
                | (refine .inr ⟨unwanted_of (j := 25) (d := 94) rfl rfl eg (by rfl), ?_⟩; exact (rfl : (Mo.is undef).p undef y.on))
                | (refine .inr ⟨unwanted_und (j := 25) (d := 94) rfl rfl eg, ?_⟩; exact (rfl : (Mo.is undef).p undef y.on))
                | (have e99 : a'.tmps[99]?.getD undef = _ := hd 30 99 rfl rfl; have e103 : a'.tmps[103]?.getD undef = _ := hd 34 103 rfl rfl; refine .inl ⟨wanted_of (j := 25) (d := 94) rfl rfl eg, ?_⟩; clear hs hd hx eg; go_simp; exact ⟨Ext.refl _ _, rfl⟩)
              · intro a' w' hx hs hd
                obtain ⟨y, rfl⟩ := hx.ew
                have eg : a'.tmps[94]?.getD undef = _ := hd 25 94 rfl rfl
                first
                | (refine .inr ⟨unwanted_of (j := 25) (d := 94) rfl rfl eg (by rfl), ?_⟩; exact (rfl : (Mo.is undef).p undef y.on))
                | (refine .inr ⟨unwanted_und (j := 25) (d := 94) rfl rfl eg, ?_⟩; exact (rfl : (Mo.is undef).p undef y.on))
                | (have e104 : a'.tmps[104]?.getD undef = _ := hd 35 104 rfl rfl; refine .inl ⟨wanted_of (j := 25) (d := 94) rfl rfl eg, ?_⟩; clear hs hd hx eg; go_simp; exact ⟨Ext.refl _ _, rfl⟩)
              · intro a' w' hx hs hd
                obtain ⟨y, rfl⟩ := hx.ew
                have eg : a'.tmps[105]?.getD undef = _ := hd 36 105 rfl rfl
                first
                | (refine .inr ⟨unwanted_of (j := 36) (d := 105) rfl rfl eg (by rfl), ?_⟩; exact (rfl : (Mo.is undef).p undef y.on))
                | (refine .inr ⟨unwanted_und (j := 36) (d := 105) rfl rfl eg, ?_⟩; exact (rfl : (Mo.is undef).p undef y.on))
                | (have e16 : a'.tmps[16]?.getD undef = _ := hs 16 rfl; simp only [List.getElem?_toArray, List.getElem?_cons_succ, List.getElem?_cons_zero, Option.getD_some, Array.getElem?_eq_some_iff] at e16; refine .inl ⟨wanted_of (j := 36) (d := 105) rfl rfl eg, ?_⟩; clear hs hd hx eg; go_simp; exact ⟨Ext.refl _ _, rfl⟩)
              · intro a' w' hx hs hd
                obtain ⟨y, rfl⟩ := hx.ew
                have eg : a'.tmps[105]?.getD undef = _ := hd 36 105 rfl rfl
                first
                | (refine .inr ⟨unwanted_of (j := 36) (d := 105) rfl rfl eg (by rfl), ?_⟩; exact (rfl : (Mo.is undef).p undef y.on))
                | (refine .inr ⟨unwanted_und (j := 36) (d := 105) rfl rfl eg, ?_⟩; exact (rfl : (Mo.is undef).p undef y.on))
                | (have e12 : a'.tmps[12]?.getD undef = _ := hs 12 rfl; simp only [List.getElem?_toArray, List.getElem?_cons_succ, List.getElem?_cons_zero, Option.getD_some, Array.getElem?_eq_some_iff] at e12; refine .inl ⟨wanted_of (j := 36) (d := 105) rfl rfl eg, ?_⟩; clear hs hd hx eg; go_simp; exact ⟨Ext.refl _ _, rfl⟩)
              · intro a' w' hx hs hd
                obtain ⟨y, rfl⟩ := hx.ew
                have eg : a'.tmps[105]?.getD undef = _ := hd 36 105 rfl rfl
                first
                | (refine .inr ⟨unwanted_of (j := 36) (d := 105) rfl rfl eg (by rfl), ?_⟩; exact (rfl : (Mo.is undef).p undef y.on))
                | (refine .inr ⟨unwanted_und (j := 36) (d := 105) rfl rfl eg, ?_⟩; exact (rfl : (Mo.is undef).p undef y.on))
                | (have e106 : a'.tmps[106]?.getD undef = _ := hd 37 106 rfl rfl; have e107 : a'.tmps[107]?.getD undef = _ := hd 38 107 rfl rfl; refine .inl ⟨wanted_of (j := 36) (d := 105) rfl rfl eg, ?_⟩; clear hs hd hx eg; go_simp; exact ⟨Ext.refl _ _, rfl⟩)
              · intro a' w' hx hs hd
                obtain ⟨y, rfl⟩ := hx.ew
                have eg : a'.tmps[94]?.getD undef = _ := hd 25 94 rfl rfl
                first
                | (refine .inr ⟨unwanted_of (j := 25) (d := 94) rfl rfl eg (by rfl), ?_⟩; exact (rfl : (Mo.is undef).p undef y.on))
                | (refine .inr ⟨unwanted_und (j := 25) (d := 94) rfl rfl eg, ?_⟩; exact (rfl : (Mo.is undef).p undef y.on))
                | (have e105 : a'.tmps[105]?.getD undef = _ := hd 36 105 rfl rfl; have e108 : a'.tmps[108]?.getD undef = _ := hd 39 108 rfl rfl; refine .inl ⟨wanted_of (j := 25) (d := 94) rfl rfl eg, ?_⟩; clear hs hd hx eg; go_simp; exact ⟨Ext.refl _ _, rfl⟩)
              · intro a' w' hx hs hd
                obtain ⟨y, rfl⟩ := hx.ew
                have eg : a'.tmps[94]?.getD undef = _ := hd 25 94 rfl rfl
                first
                | (refine .inr ⟨unwanted_of (j := 25) (d := 94) rfl rfl eg (by rfl), ?_⟩; exact (rfl : (Mo.is undef).p undef y.on))
                | (refine .inr ⟨unwanted_und (j := 25) (d := 94) rfl rfl eg, ?_⟩; exact (rfl : (Mo.is undef).p undef y.on))
                | (have e109 : a'.tmps[109]?.getD undef = _ := hd 40 109 rfl rfl; refine .inl ⟨wanted_of (j := 25) (d := 94) rfl rfl eg, ?_⟩; clear hs hd hx eg; go_simp; exact ⟨Ext.refl _ _, rfl⟩)
              · intro a' w' hx hs hd
                obtain ⟨y, rfl⟩ := hx.ew
                have eg : a'.tmps[110]?.getD undef = _ := hd 41 110 rfl rfl
                first
                | (refine .inr ⟨unwanted_of (j := 41) (d := 110) rfl rfl eg (by rfl), ?_⟩; exact (rfl : (Mo.is undef).p undef y.on))
                | (refine .inr ⟨unwanted_und (j := 41) (d := 110) rfl rfl eg, ?_⟩; exact (rfl : (Mo.is undef).p undef y.on))
                | (have e5 : a'.tmps[5]?.getD undef = _ := hs 5 rfl; simp only [List.getElem?_toArray, List.getElem?_cons_succ, List.getElem?_cons_zero, Option.getD_some, Array.getElem?_eq_some_iff] at e5; refine .inl ⟨wanted_of (j := 41) (d := 110) rfl rfl eg, ?_⟩; clear hs hd hx eg; go_simp; exact ⟨Ext.refl _ _, rfl⟩)
              · intro a' w' hx hs hd
                obtain ⟨y, rfl⟩ := hx.ew
                have eg : a'.tmps[110]?.getD undef = _ := hd 41 110 rfl rfl
                first
                | (refine .inr ⟨unwanted_of (j := 41) (d := 110) rfl rfl eg (by rfl), ?_⟩; exact (rfl : (Mo.is undef).p undef y.on))
                | (refine .inr ⟨unwanted_und (j := 41) (d := 110) rfl rfl eg, ?_⟩; exact (rfl : (Mo.is undef).p undef y.on))
                | (have e111 : a'.tmps[111]?.getD undef = _ := hd 42 111 rfl rfl; refine .inl ⟨wanted_of (j := 41) (d := 110) rfl rfl eg, ?_⟩; clear hs hd hx eg; go_simp; exact (log_Certs b G2 g2 _ (HL10.out.extN (by (repeat (first | with_reducible exact Ext.refl _ _ | assumption | with_reducible refine Ext.upN ?_ | with_reducible refine Ext.alloc ?_ _ | with_reducible refine Ext.upA (by assumption) ?_ | with_reducible refine Ext.upW ?_ | with_reducible refine Ext.drew ?_ | with_reducible refine Ext.drewN ?_ _ | with_reducible refine Ext.upF ?_ | with_reducible refine Ext.upFF (by first | omega | simp) ?_ | with_reducible refine Ext.setCellsF _ _ _ (by first | omega | simp) ?_ | with_reducible refine Ext.setCellF _ _ _ (by first | omega | simp) ?_ | with_reducible refine Ext.upFN (by first | omega | simp) ?_ | with_reducible refine Ext.up1F (by first | omega | simp) ?_ | with_reducible refine Ext.up1N (by first | omega | simp) ?_ | with_reducible refine Ext.setCell ?_ (.inr (by first | omega | simp)) _ | refine Ext.alloc ?_ _ | refine Ext.setCellF _ _ _ (by first | omega | simp) ?_ | refine Ext.setCell ?_ (.inr (by first | omega | simp)) _)))) HV10.out.1.sigsB).mono (fun e w'' ⟨ra, rc, he, hR, hx⟩ => ⟨_, he, hx, ra, rc, rfl, hR⟩))
              · intro a' w' hx hs hd
                obtain ⟨y, rfl⟩ := hx.ew
                have eg : a'.tmps[110]?.getD undef = _ := hd 41 110 rfl rfl
                first
                | (refine .inr ⟨unwanted_of (j := 41) (d := 110) rfl rfl eg (by rfl), ?_⟩; exact (rfl : (Mo.is undef).p undef y.on))
                | (refine .inr ⟨unwanted_und (j := 41) (d := 110) rfl rfl eg, ?_⟩; exact (rfl : (Mo.is undef).p undef y.on))
                | (have e13 : a'.tmps[13]?.getD undef = _ := hs 13 rfl; simp only [List.getElem?_toArray, List.getElem?_cons_succ, List.getElem?_cons_zero, Option.getD_some, Array.getElem?_eq_some_iff] at e13; refine .inl ⟨wanted_of (j := 41) (d := 110) rfl rfl eg, ?_⟩; clear hs hd hx eg; go_simp; exact ⟨Ext.refl _ _, rfl⟩)
              · intro a' w' hx hs hd
                obtain ⟨y, rfl⟩ := hx.ew
                have eg : a'.tmps[110]?.getD undef = _ := hd 41 110 rfl rfl
                first
                | (refine .inr ⟨unwanted_of (j := 41) (d := 110) rfl rfl eg (by rfl), ?_⟩; exact (rfl : (Mo.is undef).p undef y.on))
                | (refine .inr ⟨unwanted_und (j := 41) (d := 110) rfl rfl eg, ?_⟩; exact (rfl : (Mo.is undef).p undef y.on))
                | (obtain ⟨ra2, rc2, e112, hR2⟩ : ∃ ra rc, a'.tmps[112]?.getD undef = .slice ra (certsG g2).length rc ∧ Certs y.on ra rc (certsG g2) := hd 43 112 rfl rfl; have e113 : a'.tmps[113]?.getD undef = _ := hd 44 113 rfl rfl; refine .inl ⟨wanted_of (j := 41) (d := 110) rfl rfl eg, ?_⟩; clear hs hd hx eg; go_simp; exact (ref13_SameCerts ra2 rc2 (certsG g2) ca cc (certsG g2) _ hR2 (HCt10.out.extN (by (repeat (first | with_reducible exact Ext.refl _ _ | assumption | with_reducible refine Ext.upN ?_ | with_reducible refine Ext.alloc ?_ _ | with_reducible refine Ext.upA (by assumption) ?_ | with_reducible refine Ext.upW ?_ | with_reducible refine Ext.drew ?_ | with_reducible refine Ext.drewN ?_ _ | with_reducible refine Ext.upF ?_ | with_reducible refine Ext.upFF (by first | omega | simp) ?_ | with_reducible refine Ext.setCellsF _ _ _ (by first | omega | simp) ?_ | with_reducible refine Ext.setCellF _ _ _ (by first | omega | simp) ?_ | with_reducible refine Ext.upFN (by first | omega | simp) ?_ | with_reducible refine Ext.up1F (by first | omega | simp) ?_ | with_reducible refine Ext.up1N (by first | omega | simp) ?_ | with_reducible refine Ext.setCell ?_ (.inr (by first | omega | simp)) _ | refine Ext.alloc ?_ _ | refine Ext.setCellF _ _ _ (by first | omega | simp) ?_ | refine Ext.setCell ?_ (.inr (by first | omega | simp)) _))))).mono (fun e w'' ⟨he, hx⟩ => ⟨.bool true, he.trans (congrArg _ (congrArg _ (certsEq_refl _))), hx, rfl⟩))
              · intro a' w' hx hs hd
                obtain ⟨y, rfl⟩ := hx.ew
                have eg : a'.tmps[110]?.getD undef = _ := hd 41 110 rfl rfl
                first
                | (refine .inr ⟨unwanted_of (j := 41) (d := 110) rfl rfl eg (by rfl), ?_⟩; exact (rfl : (Mo.is undef).p undef y.on))
                | (refine .inr ⟨unwanted_und (j := 41) (d := 110) rfl rfl eg, ?_⟩; exact (rfl : (Mo.is undef).p undef y.on))
                | (have e114 : a'.tmps[114]?.getD undef = _ := hd 45 114 rfl rfl; refine .inl ⟨wanted_of (j := 41) (d := 110) rfl rfl eg, ?_⟩; clear hs hd hx eg; go_simp; exact ⟨Ext.refl _ _, rfl⟩)
              · intro a' w' hx hs hd
                obtain ⟨y, rfl⟩ := hx.ew
                have eg : a'.tmps[94]?.getD undef = _ := hd 25 94 rfl rfl
                first
                | (refine .inr ⟨unwanted_of (j := 25) (d := 94) rfl rfl eg (by rfl), ?_⟩; exact (rfl : (Mo.is undef).p undef y.on))
                | (refine .inr ⟨unwanted_und (j := 25) (d := 94) rfl rfl eg, ?_⟩; exact (rfl : (Mo.is undef).p undef y.on))
                | (have e110 : a'.tmps[110]?.getD undef = _ := hd 41 110 rfl rfl; have e115 : a'.tmps[115]?.getD undef = _ := hd 46 115 rfl rfl; refine .inl ⟨wanted_of (j := 25) (d := 94) rfl rfl eg, ?_⟩; clear hs hd hx eg; go_simp; exact ⟨Ext.refl _ _, rfl⟩)
              · intro a' w' hx hs hd
                obtain ⟨y, rfl⟩ := hx.ew
                have eg : a'.tmps[91]?.getD undef = _ := hd 22 91 rfl rfl
                first
                | (refine .inr ⟨unwanted_of (j := 22) (d := 91) rfl rfl eg (by rfl), ?_⟩; exact (rfl : (Mo.is undef).p undef y.on))
                | (refine .inr ⟨unwanted_und (j := 22) (d := 91) rfl rfl eg, ?_⟩; exact (rfl : (Mo.is undef).p undef y.on))
                | (have e94 : a'.tmps[94]?.getD undef = _ := hd 25 94 rfl rfl; have e116 : a'.tmps[116]?.getD undef = _ := hd 47 116 rfl rfl; refine .inl ⟨wanted_of (j := 22) (d := 91) rfl rfl eg, ?_⟩; clear hs hd hx eg; go_simp; exact ⟨Ext.refl _ _, rfl⟩)
              · intro a' w' hx hs hd
                obtain ⟨y, rfl⟩ := hx.ew
                have e91 : a'.tmps[91]?.getD undef = _ := hd 22 91 rfl rfl
                have e117 : a'.tmps[117]?.getD undef = _ := hd 48 117 rfl rfl
                refine .inl ⟨rfl, ?_⟩
                clear hs hd hx
                go_simp
                exact ⟨Ext.refl _ _, rfl⟩
            case' q3 =>
              intro vs w' hx hRR
              obtain ⟨xq, rfl⟩ := hx.ew
              have q0 : vs 0 = _ := hRR 0 (by decide)
              have q1 : vs 1 = _ := hRR 1 (by decide)
              have q2 : vs 2 = _ := hRR 2 (by decide)
              have q3 : vs 3 = _ := hRR 3 (by decide)
              have q4 : vs 4 = _ := hRR 4 (by decide)
              have q5 : vs 5 = _ := hRR 5 (by decide)
              have q6 : vs 6 = _ := hRR 6 (by decide)
              have q7 : vs 7 = _ := hRR 7 (by decide)
              have q8 : vs 8 = _ := hRR 8 (by decide)
              have q9 : vs 9 = _ := hRR 9 (by decide)
              have q10 : vs 10 = _ := hRR 10 (by decide)
              have q11 : vs 11 = _ := hRR 11 (by decide)
              have q12 : vs 12 = _ := hRR 12 (by decide)
              have q13 : vs 13 = _ := hRR 13 (by decide)
              have q14 : vs 14 = _ := hRR 14 (by decide)
              have q15 : vs 15 = _ := hRR 15 (by decide)
              have q16 : vs 16 = _ := hRR 16 (by decide)
              have q17 : vs 17 = _ := hRR 17 (by decide)
              have q18 : vs 18 = _ := hRR 18 (by decide)
              have q19 : vs 19 = _ := hRR 19 (by decide)
              have q20 : vs 20 = _ := hRR 20 (by decide)
              have q21 : vs 21 = _ := hRR 21 (by decide)
              have q22 : vs 22 = _ := hRR 22 (by decide)
              have q23 : vs 23 = _ := hRR 23 (by decide)
              have q24 : vs 24 = _ := hRR 24 (by decide)
              have q25 : vs 25 = _ := hRR 25 (by decide)
              have q26 : vs 26 = _ := hRR 26 (by decide)
              have q27 : vs 27 = _ := hRR 27 (by decide)
              have q28 : vs 28 = _ := hRR 28 (by decide)
              have q29 : vs 29 = _ := hRR 29 (by decide)
              have q30 : vs 30 = _ := hRR 30 (by decide)
              have q31 : vs 31 = _ := hRR 31 (by decide)
              have q32 : vs 32 = _ := hRR 32 (by decide)
              have q33 : vs 33 = _ := hRR 33 (by decide)
              have q34 : vs 34 = _ := hRR 34 (by decide)
              have q35 : vs 35 = _ := hRR 35 (by decide)
              have q36 : vs 36 = _ := hRR 36 (by decide)
              have q37 : vs 37 = _ := hRR 37 (by decide)
              have q38 : vs 38 = _ := hRR 38 (by decide)
              have q39 : vs 39 = _ := hRR 39 (by decide)
              have q40 : vs 40 = _ := hRR 40 (by decide)
              have q41 : vs 41 = _ := hRR 41 (by decide)
              have q42 : vs 42 = _ := hRR 42 (by decide)
              obtain ⟨ra2, rc2, q43, hR2⟩ : ∃ ra rc, vs 43 = .slice ra (certsG g2).length rc ∧ Certs xq.on ra rc (certsG g2) := hRR 43 (by decide)
              have q44 : vs 44 = _ := hRR 44 (by decide)
              have q45 : vs 45 = _ := hRR 45 (by decide)
              have q46 : vs 46 = _ := hRR 46 (by decide)
              have q47 : vs 47 = _ := hRR 47 (by decide)
              have q48 : vs 48 = _ := hRR 48 (by decide)
              have q49 : vs 49 = _ := hRR 49 (by decide)
              clear hRR hx
              simp only [putAll, List.take_succ_cons, List.take_zero, List.drop_succ_cons, List.drop_zero, Act.put, List.setIfInBounds_toArray, List.set_cons_zero, List.set_cons_succ, Nat.reduceAdd, Nat.zero_add]
              simp only [q0, q1, q2, q3, q4, q5, q6, q7, q8, q9, q10, q11, q12, q13, q14, q15, q16, q17, q18, q19, q20, q21, q22, q23, q24, q25, q26, q27, q28, q29, q30, q31, q32, q33, q34, q35, q36, q37, q38, q39, q40, q41, q42, q43, q44, q45, q46, q47, q48, q49]
              clear q0 q1 q2 q3 q4 q5 q6 q7 q8 q9 q10 q11 q12 q13 q14 q15 q16 q17 q18 q19 q20 q21 q22 q23 q24 q25 q26 q27 q28 q29 q30 q31 q32 q33 q34 q35 q36 q37 q38 q39 q40 q41 q42 q43 q44 q45 q46 q47 q48 q49 vs
            clear hR2
          all_goals
            have X12 : Ext Non x12.on xq.on := by (repeat (first | with_reducible exact Ext.refl _ _ | assumption | with_reducible refine Ext.upN ?_ | with_reducible refine Ext.alloc ?_ _ | with_reducible refine Ext.upA (by assumption) ?_ | with_reducible refine Ext.upW ?_ | with_reducible refine Ext.drew ?_ | with_reducible refine Ext.drewN ?_ _ | with_reducible refine Ext.upF ?_ | with_reducible refine Ext.upFF (by first | omega | simp) ?_ | with_reducible refine Ext.setCellsF _ _ _ (by first | omega | simp) ?_ | with_reducible refine Ext.setCellF _ _ _ (by first | omega | simp) ?_ | with_reducible refine Ext.upFN (by first | omega | simp) ?_ | with_reducible refine Ext.up1F (by first | omega | simp) ?_ | with_reducible refine Ext.up1N (by first | omega | simp) ?_ | with_reducible refine Ext.setCell ?_ (.inr (by first | omega | simp)) _ | refine Ext.alloc ?_ _ | refine Ext.setCellF _ _ _ (by first | omega | simp) ?_ | refine Ext.setCell ?_ (.inr (by first | omega | simp)) _))
            have HLq := Go.Lib.hid (HL10.out.extN X12)
            have BCq := Go.Lib.hid (BC10.out.extN X12)
            obtain ⟨x13, hx13⟩ := (x12.ext.trans X12).ew
            rw [hx13] at HLq BCq ⊢
            clear hx13 X12 z0 z1 z2 z3 z4 z5 y0 y1 y2 y3 y4 y5 qc1 BY BZ10 HCt10 HL10 BC10 xq x12 v1 v2 v3 v4 hsb
            go_wp2_with fail
            go_loopg [17, 18] (certsG g2).length (fun n fv kv wr => ∃ (fb : Bool) (k : Nat) (z : EW Non w), k ≤ (certsG g2).length ∧ n = (certsG g2).length - k ∧ fv = .bool fb ∧ kv = .int .i64 k ∧ wr = z.on ∧ Hid (fb = anyN (certsG g2) nn k) ∧ Hid (LoW wr b G2 g2) ∧ Hid (Bx wr w.heap.size [.int .i64 ep, .slice a xs.length cap] 34))
            case atStart => exact ⟨false, 0, x13, Nat.zero_le _, rfl, rfl, rfl, rfl, Go.Lib.hid rfl, HLq, BCq⟩
            case round =>
              clear HLq BCq
              obtain ⟨fb, k, z, hk, hkn, rfl, rfl, rfl, HFB, HL, BC⟩ := hrel
              have HKN := Go.Lib.hid hkn; clear hkn
              have hsb := HV10.out.1.sigsB
              have HSB := Go.Lib.hid hsb
              clear hsb
              go_wp2_with fail
              refine (log_Certs b G2 g2 _ (HL.out.extN (by (repeat (first | with_reducible exact Ext.refl _ _ | assumption | with_reducible refine Ext.upN ?_ | with_reducible refine Ext.alloc ?_ _ | with_reducible refine Ext.upA (by assumption) ?_ | with_reducible refine Ext.upW ?_ | with_reducible refine Ext.drew ?_ | with_reducible refine Ext.drewN ?_ _ | with_reducible refine Ext.upF ?_ | with_reducible refine Ext.upFF (by first | omega | simp) ?_ | with_reducible refine Ext.setCellsF _ _ _ (by first | omega | simp) ?_ | with_reducible refine Ext.setCellF _ _ _ (by first | omega | simp) ?_ | with_reducible refine Ext.upFN (by first | omega | simp) ?_ | with_reducible refine Ext.up1F (by first | omega | simp) ?_ | with_reducible refine Ext.up1N (by first | omega | simp) ?_ | with_reducible refine Ext.setCell ?_ (.inr (by first | omega | simp)) _ | refine Ext.alloc ?_ _ | refine Ext.setCellF _ _ _ (by first | omega | simp) ?_ | refine Ext.setCell ?_ (.inr (by first | omega | simp)) _)))) HSB.out).mono ?_
              rintro e _ ⟨ka, kc', rfl, hC, hx⟩
              obtain ⟨y6, rfl⟩ := hx.ew
              have hlc := hC.le; have hsc := hC.small
              clear hC hx
              by_cases hlt : k < (certsG g2).length
              · have HA := Go.Lib.hid (anyN_succ nn hlt)
                cases fb
                · go_wp2_with fail
                  refine (log_Certs b G2 g2 _ (HL.out.extN (by (repeat (first | with_reducible exact Ext.refl _ _ | assumption | with_reducible refine Ext.upN ?_ | with_reducible refine Ext.alloc ?_ _ | with_reducible refine Ext.upA (by assumption) ?_ | with_reducible refine Ext.upW ?_ | with_reducible refine Ext.drew ?_ | with_reducible refine Ext.drewN ?_ _ | with_reducible refine Ext.upF ?_ | with_reducible refine Ext.upFF (by first | omega | simp) ?_ | with_reducible refine Ext.setCellsF _ _ _ (by first | omega | simp) ?_ | with_reducible refine Ext.setCellF _ _ _ (by first | omega | simp) ?_ | with_reducible refine Ext.upFN (by first | omega | simp) ?_ | with_reducible refine Ext.up1F (by first | omega | simp) ?_ | with_reducible refine Ext.up1N (by first | omega | simp) ?_ | with_reducible refine Ext.setCell ?_ (.inr (by first | omega | simp)) _ | refine Ext.alloc ?_ _ | refine Ext.setCellF _ _ _ (by first | omega | simp) ?_ | refine Ext.setCell ?_ (.inr (by first | omega | simp)) _)))) HSB.out).mono ?_
                  rintro e _ ⟨kb, kd, rfl, hC, hx⟩
                  obtain ⟨y7, rfl⟩ := hx.ew
                  obtain ⟨cb, co, sa, scap, rfl, hcb, ck, -⟩ := hC.at_ k hlt
                  have z1 : y7.on.cell? ⟨cb, co + k * 9 + 1, none⟩ = some (.int .i64 (ctAt (certsG g2) k).slot) := ck 1 _ rfl
                  generalize (ctAt (certsG g2) k).slot = sk at *
                  have HF' : Hid ((sk == nn) = anyN (certsG g2) nn (k + 1)) := Go.Lib.hid (by rw [HA.out, ← HFB.out]; rfl)
                  clear ck hC hx
                  have XY : Ext Non z.on y7.on := by (repeat (first | with_reducible exact Ext.refl _ _ | assumption | with_reducible refine Ext.upN ?_ | with_reducible refine Ext.alloc ?_ _ | with_reducible refine Ext.upA (by assumption) ?_ | with_reducible refine Ext.upW ?_ | with_reducible refine Ext.drew ?_ | with_reducible refine Ext.drewN ?_ _ | with_reducible refine Ext.upF ?_ | with_reducible refine Ext.upFF (by first | omega | simp) ?_ | with_reducible refine Ext.setCellsF _ _ _ (by first | omega | simp) ?_ | with_reducible refine Ext.setCellF _ _ _ (by first | omega | simp) ?_ | with_reducible refine Ext.upFN (by first | omega | simp) ?_ | with_reducible refine Ext.up1F (by first | omega | simp) ?_ | with_reducible refine Ext.up1N (by first | omega | simp) ?_ | with_reducible refine Ext.setCell ?_ (.inr (by first | omega | simp)) _ | refine Ext.alloc ?_ _ | refine Ext.setCellF _ _ _ (by first | omega | simp) ?_ | refine Ext.setCell ?_ (.inr (by first | omega | simp)) _))
                  have HLq := Go.Lib.hid (HL.out.extN XY)
                  have BCq := Go.Lib.hid (BC.out.extN XY)
                  go_wp2_with fail
                  go_roundg ((certsG g2).length - (k + 1))
                  case measure => have := HKN.out; omega
                  case rel => exact ⟨_, k + 1, ⟨_, by (repeat (first | with_reducible exact Ext.refl _ _ | assumption | with_reducible refine Ext.upN ?_ | with_reducible refine Ext.alloc ?_ _ | with_reducible refine Ext.upA (by assumption) ?_ | with_reducible refine Ext.upW ?_ | with_reducible refine Ext.drew ?_ | with_reducible refine Ext.drewN ?_ _ | with_reducible refine Ext.upF ?_ | with_reducible refine Ext.upFF (by first | omega | simp) ?_ | with_reducible refine Ext.setCellsF _ _ _ (by first | omega | simp) ?_ | with_reducible refine Ext.setCellF _ _ _ (by first | omega | simp) ?_ | with_reducible refine Ext.upFN (by first | omega | simp) ?_ | with_reducible refine Ext.up1F (by first | omega | simp) ?_ | with_reducible refine Ext.up1N (by first | omega | simp) ?_ | with_reducible refine Ext.setCell ?_ (.inr (by first | omega | simp)) _ | refine Ext.alloc ?_ _ | refine Ext.setCellF _ _ _ (by first | omega | simp) ?_ | refine Ext.setCell ?_ (.inr (by first | omega | simp)) _))⟩, by omega, rfl, rfl, by go_num, rfl, HF', HLq, BCq⟩
                · have HF' : Hid (true = anyN (certsG g2) nn (k + 1)) := Go.Lib.hid (by rw [HA.out, ← HFB.out]; rfl)
                  have XY : Ext Non z.on y6.on := by (repeat (first | with_reducible exact Ext.refl _ _ | assumption | with_reducible refine Ext.upN ?_ | with_reducible refine Ext.alloc ?_ _ | with_reducible refine Ext.upA (by assumption) ?_ | with_reducible refine Ext.upW ?_ | with_reducible refine Ext.drew ?_ | with_reducible refine Ext.drewN ?_ _ | with_reducible refine Ext.upF ?_ | with_reducible refine Ext.upFF (by first | omega | simp) ?_ | with_reducible refine Ext.setCellsF _ _ _ (by first | omega | simp) ?_ | with_reducible refine Ext.setCellF _ _ _ (by first | omega | simp) ?_ | with_reducible refine Ext.upFN (by first | omega | simp) ?_ | with_reducible refine Ext.up1F (by first | omega | simp) ?_ | with_reducible refine Ext.up1N (by first | omega | simp) ?_ | with_reducible refine Ext.setCell ?_ (.inr (by first | omega | simp)) _ | refine Ext.alloc ?_ _ | refine Ext.setCellF _ _ _ (by first | omega | simp) ?_ | refine Ext.setCell ?_ (.inr (by first | omega | simp)) _))
                  have HLq := Go.Lib.hid (HL.out.extN XY)
                  have BCq := Go.Lib.hid (BC.out.extN XY)
                  go_wp2_with fail
                  go_roundg ((certsG g2).length - (k + 1))
                  case measure => have := HKN.out; omega
                  case rel => exact ⟨true, k + 1, ⟨_, by (repeat (first | with_reducible exact Ext.refl _ _ | assumption | with_reducible refine Ext.upN ?_ | with_reducible refine Ext.alloc ?_ _ | with_reducible refine Ext.upA (by assumption) ?_ | with_reducible refine Ext.upW ?_ | with_reducible refine Ext.drew ?_ | with_reducible refine Ext.drewN ?_ _ | with_reducible refine Ext.upF ?_ | with_reducible refine Ext.upFF (by first | omega | simp) ?_ | with_reducible refine Ext.setCellsF _ _ _ (by first | omega | simp) ?_ | with_reducible refine Ext.setCellF _ _ _ (by first | omega | simp) ?_ | with_reducible refine Ext.upFN (by first | omega | simp) ?_ | with_reducible refine Ext.up1F (by first | omega | simp) ?_ | with_reducible refine Ext.up1N (by first | omega | simp) ?_ | with_reducible refine Ext.setCell ?_ (.inr (by first | omega | simp)) _ | refine Ext.alloc ?_ _ | refine Ext.setCellF _ _ _ (by first | omega | simp) ?_ | refine Ext.setCell ?_ (.inr (by first | omega | simp)) _))⟩, by omega, rfl, rfl, by go_num, rfl, HF', HLq, BCq⟩
              · obtain rfl : fb = true := by
                  have h1 := anyN_all HFD.out
                  rw [HFB.out, show k = (certsG g2).length by omega]; exact h1
                have XY : Ext Non z.on y6.on := by (repeat (first | with_reducible exact Ext.refl _ _ | assumption | with_reducible refine Ext.upN ?_ | with_reducible refine Ext.alloc ?_ _ | with_reducible refine Ext.upA (by assumption) ?_ | with_reducible refine Ext.upW ?_ | with_reducible refine Ext.drew ?_ | with_reducible refine Ext.drewN ?_ _ | with_reducible refine Ext.upF ?_ | with_reducible refine Ext.upFF (by first | omega | simp) ?_ | with_reducible refine Ext.setCellsF _ _ _ (by first | omega | simp) ?_ | with_reducible refine Ext.setCellF _ _ _ (by first | omega | simp) ?_ | with_reducible refine Ext.upFN (by first | omega | simp) ?_ | with_reducible refine Ext.up1F (by first | omega | simp) ?_ | with_reducible refine Ext.up1N (by first | omega | simp) ?_ | with_reducible refine Ext.setCell ?_ (.inr (by first | omega | simp)) _ | refine Ext.alloc ?_ _ | refine Ext.setCellF _ _ _ (by first | omega | simp) ?_ | refine Ext.setCell ?_ (.inr (by first | omega | simp)) _))
                have HLq := Go.Lib.hid (HL.out.extN XY)
                have BCq := Go.Lib.hid (BC.out.extN XY)
                go_wp2_with fail
                go_roundg (l.length - (i + 1))
                case measure => have := HN.out; omega
                case rel => exact ⟨i + 1, g2, G2, ⟨_, by (repeat (first | with_reducible exact Ext.refl _ _ | assumption | with_reducible refine Ext.upN ?_ | with_reducible refine Ext.alloc ?_ _ | with_reducible refine Ext.upA (by assumption) ?_ | with_reducible refine Ext.upW ?_ | with_reducible refine Ext.drew ?_ | with_reducible refine Ext.drewN ?_ _ | with_reducible refine Ext.upF ?_ | with_reducible refine Ext.upFF (by first | omega | simp) ?_ | with_reducible refine Ext.setCellsF _ _ _ (by first | omega | simp) ?_ | with_reducible refine Ext.setCellF _ _ _ (by first | omega | simp) ?_ | with_reducible refine Ext.upFN (by first | omega | simp) ?_ | with_reducible refine Ext.up1F (by first | omega | simp) ?_ | with_reducible refine Ext.up1N (by first | omega | simp) ?_ | with_reducible refine Ext.setCell ?_ (.inr (by first | omega | simp)) _ | refine Ext.alloc ?_ _ | refine Ext.setCellF _ _ _ (by first | omega | simp) ?_ | refine Ext.setCell ?_ (.inr (by first | omega | simp)) _))⟩, by omega, rfl, by go_num, rfl, HLq, HV10, HF10, BCq⟩
      · go_wp2
        go_ret
        exact ⟨rfl, by (repeat (first | with_reducible exact Ext.refl _ _ | assumption | with_reducible refine Ext.upN ?_ | with_reducible refine Ext.alloc ?_ _ | with_reducible refine Ext.upA (by assumption) ?_ | with_reducible refine Ext.upW ?_ | with_reducible refine Ext.drew ?_ | with_reducible refine Ext.drewN ?_ _ | with_reducible refine Ext.upF ?_ | with_reducible refine Ext.upFF (by first | omega | simp) ?_ | with_reducible refine Ext.setCellsF _ _ _ (by first | omega | simp) ?_ | with_reducible refine Ext.setCellF _ _ _ (by first | omega | simp) ?_ | with_reducible refine Ext.upFN (by first | omega | simp) ?_ | with_reducible refine Ext.up1F (by first | omega | simp) ?_ | with_reducible refine Ext.up1N (by first | omega | simp) ?_ | with_reducible refine Ext.setCell ?_ (.inr (by first | omega | simp)) _ | refine Ext.alloc ?_ _ | refine Ext.setCellF _ _ _ (by first | omega | simp) ?_ | refine Ext.setCell ?_ (.inr (by first | omega | simp)) _))⟩
  · have HC := Go.Lib.hid (show confB ep xs = false by simpa using hc); clear hc
    go_enter Try.func10, Try.ntmps10
    go_wp2_with fail
    refine Calls.ew (law14_lives _) ?_
    rintro e x1 rfl
    go_wp2_with fail
    refine Calls.ew (slots_New_no ep a cap xs HC.out _ (HI.out.extN (by (repeat (first | with_reducible exact Ext.refl _ _ | assumption | with_reducible refine Ext.upN ?_ | with_reducible refine Ext.alloc ?_ _ | with_reducible refine Ext.upA (by assumption) ?_ | with_reducible refine Ext.upW ?_ | with_reducible refine Ext.drew ?_ | with_reducible refine Ext.drewN ?_ _ | with_reducible refine Ext.upF ?_ | with_reducible refine Ext.upFF (by first | omega | simp) ?_ | with_reducible refine Ext.setCellsF _ _ _ (by first | omega | simp) ?_ | with_reducible refine Ext.setCellF _ _ _ (by first | omega | simp) ?_ | with_reducible refine Ext.upFN (by first | omega | simp) ?_ | with_reducible refine Ext.up1F (by first | omega | simp) ?_ | with_reducible refine Ext.up1N (by first | omega | simp) ?_ | with_reducible refine Ext.setCell ?_ (.inr (by first | omega | simp)) _ | refine Ext.alloc ?_ _ | refine Ext.setCellF _ _ _ (by first | omega | simp) ?_ | refine Ext.setCell ?_ (.inr (by first | omega | simp)) _))))) ?_
    rintro e x2 rfl
    go_wp2
    go_ret
    exact ⟨rfl, by (repeat (first | with_reducible exact Ext.refl _ _ | assumption | with_reducible refine Ext.upN ?_ | with_reducible refine Ext.alloc ?_ _ | with_reducible refine Ext.upA (by assumption) ?_ | with_reducible refine Ext.upW ?_ | with_reducible refine Ext.drew ?_ | with_reducible refine Ext.drewN ?_ _ | with_reducible refine Ext.upF ?_ | with_reducible refine Ext.upFF (by first | omega | simp) ?_ | with_reducible refine Ext.setCellsF _ _ _ (by first | omega | simp) ?_ | with_reducible refine Ext.setCellF _ _ _ (by first | omega | simp) ?_ | with_reducible refine Ext.upFN (by first | omega | simp) ?_ | with_reducible refine Ext.up1F (by first | omega | simp) ?_ | with_reducible refine Ext.up1N (by first | omega | simp) ?_ | with_reducible refine Ext.setCell ?_ (.inr (by first | omega | simp)) _ | refine Ext.alloc ?_ _ | refine Ext.setCellF _ _ _ (by first | omega | simp) ?_ | refine Ext.setCell ?_ (.inr (by first | omega | simp)) _))⟩
set_option maxRecDepth 100000 in
open Go.ChangeShapes Go.WideShapes in
theorem law_SlotsStays {H : Type} {enc : TypeId × Value → H} (W : World) {base : Nat} (v0 : Value) (d0 : DataW H) (p0 : List MemPlace) (v1 : Value) (d1 : DataW H) (p1 : List MemPlace)
    (h0 : DataW.Trod enc Try.prog W 0 (fun _ => true) true 34 v0 d0 p0) (ok0 : Value.okWide Try.prog W .any base 34 v0)
    (h1 : DataW.Trod enc Try.prog W 0 (fun _ => true) true 69 v1 d1 p1) (ok1 : Value.okWide Try.prog W .any base 69 v1) :
    Calls Try.prog 10 #[v0, v1] W fun e w' => e = .returned (.bool true) ∧ Below W.heap.size W w' := by
  obtain ⟨ep, a, cap, xs, rfl, hep, hi, _⟩ := arg_conf ok0 h0
  obtain ⟨pa, pcap, l, rfl, hs⟩ := arg_ops14 ok1 h1
  exact (walk_SlotsStays ep hep a cap xs pa pcap l W hi hs).mono fun _ _ ⟨a, b⟩ => ⟨a, b.toBelow⟩
end Go.Proofs.Ytakbkpklfihfiaa
