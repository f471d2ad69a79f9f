/- Joined texts: Rep9, Rep11, Rep22. What each proves stands at its head; no conditions beside those in its theorems. -/
import Derived.LaidEqlPtr
import Derived.Laws.CopyOwn
import Derived.Deep.OwnRows
import Derived.Deep.RegionLaw
import Derived.Test.YtflpkoafebjfdaaGreatProg
import Derived.Shelf.SlIter.Nil
import Derived.Shelf.SortM.Plain
import Derived.Shelf.SortM.SortNone
import Derived.Ground.GgzProg
import Derived.Ground.SlgmProg
import Derived.Test.YtflpkoafebjfdaaGreatPjBP
/- Contracts of layer 18 (replica): propose. -/
namespace Go.Proofs.YtflpkoafebjfdaaGreat
open Go.RowKit Go.Lib F64
set_option linter.unusedSimpArgs false
set_option linter.unusedVariables false
attribute [local go_sem] run_store_float
attribute [local go_sem low] EW.cellN EW.frozN alloc_cell_or alloc_froz_or
attribute [local go_sem] relAt relUpon
/-- What takeUp leaves, with so many leaves at most. -/
def TkC (T : Rp → Int → Req → Rp) (n : Int) : Prop := ∀ (w : World) (b : Nat) (col : Nat → Nat) (A : RA) (g : Rp) (slot : Int) (rc rs rk : Int) (rkey : ByteArray) (rx : Nat) (rid : Int), RepW w b col A g → RInv g → I64 slot → ReqOk ⟨rc, rs, ⟨rk, rkey, rx, rid⟩⟩ → g.left ≤ n →
  Calls Tryz.prog 199 #[.pointer (some ⟨b, 0, none⟩), .int .i64 slot, .agg #[.int .i64 rc, .int .i64 rs, .int .i64 rk, .string rkey, .float .f64 rx, .int .i64 rid]] w fun e w' => e = .returned (.tuple #[]) ∧ RPost w b col A g w' (T g slot ⟨rc, rs, ⟨rk, rkey, rx, rid⟩⟩) ∧ RInv (T g slot ⟨rc, rs, ⟨rk, rkey, rx, rid⟩⟩) ∧ (T g slot ⟨rc, rs, ⟨rk, rkey, rx, rid⟩⟩).left ≤ g.left
theorem TkC.of {P : Rp → Rp} {n : Int} (HG : GoC P n) : TkC (takeUpF P) (n + 1) := fun w b col A g slot rc rs rk rkey rx rid h hi hs hr hn => rep_takeUp P slot hs rc rs rk rkey rx rid (fun hb w b col A h hi hs => HG w b col A _ slot h hi hs (by show (signG g).left ≤ n; rw [sign_left hb]; omega)) hr w h hi
theorem TkC.none : TkC (fun g _ _ => signG g) 0 := fun w b col A g slot rc rs rk rkey rx rid h hi hs hr hn => by
  have HG : GoC id (-1) := fun w b col A g slot h hi hs hn => by have := hi.b.lf; omega
  have h0 : signB g = false := by
    have := hi.b.lf
    unfold signB
    rw [show decide (g.left ≠ 0) = false from decide_eq_false (by omega)]; rfl
  have e : takeUpF id g slot ⟨rc, rs, ⟨rk, rkey, rx, rid⟩⟩ = signG g := by unfold takeUpF; rw [h0]; rfl
  have := TkC.of HG w b col A g slot rc rs rk rkey rx rid h hi hs hr (by omega)
  rw [e] at this
  exact this
/-- What takeUp leaves at a state. -/
def TkAt (T : Rp → Int → Req → Rp) (g : Rp) (slot : Int) (q : Req) : Prop := ∀ (w : World) (b : Nat) (col : Nat → Nat) (A : RA) (rc rs rk : Int) (rkey : ByteArray) (rx : Nat) (rid : Int), q = ⟨rc, rs, ⟨rk, rkey, rx, rid⟩⟩ → RepW w b col A g → RInv g → I64 slot → ReqOk ⟨rc, rs, ⟨rk, rkey, rx, rid⟩⟩ →
  Calls Tryz.prog 199 #[.pointer (some ⟨b, 0, none⟩), .int .i64 slot, .agg #[.int .i64 rc, .int .i64 rs, .int .i64 rk, .string rkey, .float .f64 rx, .int .i64 rid]] w fun e w' => e = .returned (.tuple #[]) ∧ RPost w b col A g w' (T g slot q) ∧ RInv (T g slot q) ∧ (T g slot q).left ≤ g.left
def PrAt (P : Rp → Rp) (g : Rp) : Prop := ∀ (w : World) (b : Nat) (col : Nat → Nat) (A : RA), RepW w b col A g → RInv g →
  Calls Tryz.prog 194 #[.pointer (some ⟨b, 0, none⟩)] w fun e w' => e = .returned (.tuple #[]) ∧ RPost w b col A g w' (P g) ∧ RInv (P g) ∧ (P g).left ≤ g.left
theorem term_same (w : World) (k : Nat) : (binOp .eql 101 (.pointer (some ⟨k, 0, none⟩)) (.pointer (some ⟨k, 0, none⟩))).run Tryz.prog w = .ok (.bool true) w := by
  have hs : (Tryz.prog.info? 123).isSome = true := by kernel_rfl
  obtain ⟨j, hj⟩ := Option.isSome_iff_exists.1 hs
  exact run_eql_ptr_same w _ Tryz.underlying101 hj
theorem term_other {w : World} {k l : Nat} (hne : k ≠ l) (hk : ∃ c t, w.heap[k]? = some (.cells c t (0, 0))) (hl : ∃ c t, w.heap[l]? = some (.cells c t (0, 0))) : (binOp .eql 101 (.pointer (some ⟨k, 0, none⟩)) (.pointer (some ⟨l, 0, none⟩))).run Tryz.prog w = .ok (.bool false) w := by
  have hs : (Tryz.prog.info? 123).map (·.size) = some 8 := by kernel_rfl
  cases hi : Tryz.prog.info? 123 with
  | none => rw [hi] at hs; cases hs
  | some j =>
    rw [hi] at hs
    obtain ⟨c, t, h1⟩ := hk; obtain ⟨c', t', h2⟩ := hl
    exact run_eql_ptr_other w Tryz.underlying101 hi (by simp only [Option.map_some, Option.some.injEq] at hs; rw [hs]; decide) (fun e => hne (by injection e)) h1 h2
def propN (T : Rp → Int → Req → Rp) (g : Rp) (i : Nat) : Rp := (List.range i).foldl (fun x i => propStep T g.begun x (i + 1)) g
theorem propN_succ (T : Rp → Int → Req → Rp) (g : Rp) (i : Nat) : propN T g (i + 1) = propStep T g.begun (propN T g i) (i + 1) := by
  unfold propN; rw [List.range_succ, List.foldl_append]; rfl
theorem propN_stop (T : Rp → Int → Req → Rp) (g : Rp) (i : Nat) (h : ¬ ((propN T g i).begun = g.begun ∧ leadsB (propN T g i) = true)) : ∀ k, propN T g (i + k) = propN T g i
  | 0 => rfl
  | k + 1 => by
    have ih := propN_stop T g i h k
    rw [show i + (k + 1) = i + k + 1 from rfl, propN_succ, ih]
    unfold propStep
    rw [if_neg h]
theorem rowRp_wt (A : RA) (g : Rp) (c j : Nat) (hc : c < 9) (hj : j < 8) : (rowRp A g)[5 + c * 8 + j]? = (wtCells (g.waits c))[j]? := by
  have h9 : c = 0 ∨ c = 1 ∨ c = 2 ∨ c = 3 ∨ c = 4 ∨ c = 5 ∨ c = 6 ∨ c = 7 ∨ c = 8 := by omega
  have h8 : j = 0 ∨ j = 1 ∨ j = 2 ∨ j = 3 ∨ j = 4 ∨ j = 5 ∨ j = 6 ∨ j = 7 := by omega
  rcases h9 with rfl | rfl | rfl | rfl | rfl | rfl | rfl | rfl | rfl <;> rcases h8 with rfl | rfl | rfl | rfl | rfl | rfl | rfl | rfl <;> rfl
theorem RepX.wt {ex : Nat → Prop} {w : World} {b : Nat} {col : Nat → Nat} {A : RA} {g : Rp} (h : RepX ex w b col A g) (n : ¬ ex 1) (c : Nat) (hc : c < 9) : w.rangeAt b (5 + c * 8) (wtCells (g.waits c)) := fun j v hv => by
  have hj : j < 8 := (List.getElem?_eq_some_iff.1 hv).1
  exact (h.row n).cell (by rw [rowRp_wt A g c j hc hj]; exact hv)
theorem cells_propose (g : Rp) (slot : Int) (v : Vt) (k : Nat) : (Value.agg ((msgPropose g slot v).cells ⟨none, 0, some ⟨k, 0, none⟩, 1, none, 0, none, 0⟩).toArray) = .agg #[.int .i64 2, .int .i64 0, .int .i64 g.log.view, .int .i64 slot, .int .i64 v.req.client, .int .i64 v.req.stamp, .int .i64 v.req.op.kind, .string v.req.op.key, .float .f64 v.req.op.real, .int .i64 v.req.op.id, .int .i64 0, .float .f64 0, .string ⟨#[]⟩, .slice none 0 0, .slice (some ⟨k, 0, none⟩) 1 1, .slice none 0 0, .slice none 0 0] := rfl
theorem MsW.propose {w : World} {k : Nat} {g : Rp} {slot : Int} {v : Vt} (hB : Bx w k [.int .i64 v.by_, .string v.text] 48) (hv : I64 g.log.view) (hs : I64 slot) (hq : v.ok) : MsW w ⟨none, 0, some ⟨k, 0, none⟩, 1, none, 0, none, 0⟩ (msgPropose g slot v) where
  n := Ints.nil' w
  s := sigs_box hB hq.2.1 hq.2.2
  c := Chs.nil' w
  l := Lks.nil' w
  ok := ⟨by show I64 2; unfold I64; omega, by show I64 0; unfold I64; omega, hv, hs, hq.1, by show I64 0; unfold I64; omega, by show 0 < _; decide, by show ByteArray.empty.size ≤ _; decide⟩
/-- A value that names a new block. -/
def moAg (n : Nat) (f : Nat → Value) (vs : List Value) (t : TypeId) : Mo := ⟨fun v w => ∃ k, v = f k ∧ n ≤ k ∧ Bx w k vs t, fun _ _ _ x ⟨k, e, hn, h⟩ => ⟨k, e, hn, h.extN x⟩⟩
def propS (x : Rp) (v : Vt) : Rp := sayG { x with next := x.next + 1, log := proposeG x.log x.next v.req } (msgPropose { x with next := x.next + 1, log := proposeG x.log x.next v.req } x.next v)
section
variable {b : Nat} {col : Nat → Nat} {A : RA} {g : Rp}
set_option maxHeartbeats 1000000 in
set_option maxRecDepth 100000 in
theorem rep_proposeAt (T : Rp → Int → Req → Rp) (HT : ∀ i x, x = propN T g i → i < 8 → x.left ≤ g.left → (x.waits (i + 1)).req.client ≠ 0 → TkAt T (propS x (x.waits (i + 1))) x.next (x.waits (i + 1)).req) : PrAt (proposeF T) g := by
  intro w b col A h hi
  have HN := Go.Lib.hid hi
  have N0 := Go.Lib.hid (Nw.start h)
  have DT : Hid (proposeF T g = propN T g 8) := Go.Lib.hid rfl
  have hbt := h.b2
  have HC2 : Hid (col A.bt = 2 ∧ ∃ c t, w.heap[A.bt]? = some (.cells c t (0, 0))) := Go.Lib.hid ⟨h.c2, _, _, (h.trm id).h⟩
  have q0 := h.t0 id
  clear h hi
  go_enter Tryz.func194, Tryz.ntmps194
  go_wp2_with fail
  go_loopw [3] (fun iv wr => ∃ (i : Nat) (col' : Nat → Nat) (A' : RA), i ≤ 8 ∧ iv = .int .i64 ((i : Int) + 1) ∧ Hid (Nw w b col A g wr col' A' (propN T g i)) ∧ Hid (RInv (propN T g i) ∧ (propN T g i).left ≤ g.left)) (fun iv _ => 9 - (intOf iv).toNat)
  case atStart => exact ⟨0, col, A, by omega, by go_num, N0, Go.Lib.hid ⟨HN.out, Int.le_refl _⟩⟩
  case round =>
    obtain ⟨i, col1, A1, hi8, rfl, N1, I1⟩ := hrel
    have HS := Go.Lib.hid (propN_succ T g i); have HSt := Go.Lib.hid (propN_stop T g i)
    have DS := Go.Lib.hid (show propStep T g.begun (propN T g i) (i + 1) = if (propN T g i).begun = g.begun ∧ leadsB (propN T g i) = true then (if ((propN T g i).waits (i + 1)).req.client = 0 ∨ roomB (propN T g i) ((propN T g i).waits (i + 1)).req = false then propN T g i else T (sayG { propN T g i with next := (propN T g i).next + 1, log := proposeG (propN T g i).log (propN T g i).next ((propN T g i).waits (i + 1)).req } (msgPropose { propN T g i with next := (propN T g i).next + 1, log := proposeG (propN T g i).log (propN T g i).next ((propN T g i).waits (i + 1)).req } (propN T g i).next ((propN T g i).waits (i + 1)))) (propN T g i).next ((propN T g i).waits (i + 1)).req) else propN T g i from rfl)
    generalize hxe : propN T g i = x at *
    have HXE := Go.Lib.hid hxe
    clear hxe
    have e0 : wr.cell? ⟨b, 0, none⟩ = some (.pointer (some ⟨A1.bt, 0, none⟩)) := N1.out.r.t0 id
    by_cases hlt : i < 8
    · have hlb : (i : Int) + 1 ≤ 8 := by omega
      have hlb2 : ¬ (8 : Int) < (i : Int) + 1 := by omega
      have HST : Hid (¬ (x.begun = g.begun ∧ leadsB x = true) → ∀ (wz : World) (colz : Nat → Nat) (Az : RA), Nw w b col A g wz colz Az x → Ending.returned (.tuple #[]) = Ending.returned (.tuple #[]) ∧ RPost w b col A g wz (proposeF T g) ∧ RInv (proposeF T g) ∧ (proposeF T g).left ≤ g.left) := Go.Lib.hid (fun hs wz colz Az N => by
        have e : proposeF T g = x := by
          rw [DT.out]
          have := HSt.out hs (8 - i)
          rwa [show i + (8 - i) = 8 by omega] at this
        exact ⟨rfl, by rw [e]; exact N.post, by rw [e]; exact I1.out.1, by rw [e]; exact I1.out.2⟩)
      by_cases hbg : x.begun = g.begun
      · have hbt1 : A1.bt = A.bt := by rcases N1.out.t with ⟨-, e⟩ | ⟨e, -⟩; exact e; omega
        have hpe := term_same wr A.bt
        rw [hbt1] at e0
        clear hbt1
        go_wp2_with fail
        refine (rep_leads _ N1.out.r).mono ?_
        rintro e w2 ⟨rfl, x2⟩
        have N2 := Go.Lib.hid (N1.out.extN x2)
        cases hld : leadsB x
        · have HE := Go.Lib.hid (HST.out (by rw [hld]; simp))
          clear hld x2 hpe
          go_wp2
          go_returns
          exact ⟨rfl, (HE.out _ _ _ N2.out).2⟩
        · have HTi := Go.Lib.hid (HT i x HXE.out.symm hlt I1.out.2)
          have DS2 : Hid (propN T g (i + 1) = if (x.waits (i + 1)).req.client = 0 ∨ roomB x (x.waits (i + 1)).req = false then x else T (sayG { x with next := x.next + 1, log := proposeG x.log x.next (x.waits (i + 1)).req } (msgPropose { x with next := x.next + 1, log := proposeG x.log x.next (x.waits (i + 1)).req } x.next (x.waits (i + 1)))) x.next (x.waits (i + 1)).req) := Go.Lib.hid (by rw [HS.out, DS.out, if_pos ⟨hbg, hld⟩])
          have HLd := Go.Lib.hid hld
          clear hld x2 hpe HST DS HSt HS N1 e0
          have hvk := (N2.out.r.row id)
          have HWt := Go.Lib.hid (N2.out.r.wt id (i + 1) (by omega))
          have HVo := Go.Lib.hid (I1.out.1.b.wt (i + 1))
          have e0 : w2.cell? ⟨b, 0, none⟩ = some (.pointer (some ⟨A1.bt, 0, none⟩)) := N2.out.r.t0 id
          generalize x.waits (i + 1) = v at *
          obtain ⟨⟨wc, ws, ⟨wk, wkey, wx, wid⟩⟩, wby, wtx⟩ := v
          clear hvk
          have HW8 : Hid (w2.rangeAt b (5 + (i + 1) * 8) [.int .i64 wc, .int .i64 ws, .int .i64 wk, .string wkey, .float .f64 wx, .int .i64 wid, .int .i64 wby, .string wtx]) := HWt
          clear HWt
          obtain ⟨kw, hkw⟩ : ∃ kw, kw = w2.heap.size := ⟨_, rfl⟩
          have X3 := Go.Lib.hid ((Ext.refl Non w2).alloc (.cells #[.int .i64 wc, .int .i64 ws, .int .i64 wk, .string wkey, .float .f64 wx, .int .i64 wid, .int .i64 wby, .string wtx] 103))
          have B3 : Hid (Loc (w2.alloc (.cells #[.int .i64 wc, .int .i64 ws, .int .i64 wk, .string wkey, .float .f64 wx, .int .i64 wid, .int .i64 wby, .string wtx] 103)) col1 kw [.int .i64 wc, .int .i64 ws, .int .i64 wk, .string wkey, .float .f64 wx, .int .i64 wid, .int .i64 wby, .string wtx] 103) := Go.Lib.hid ⟨Bx.newAt w2 [.int .i64 wc, .int .i64 ws, .int .i64 wk, .string wkey, .float .f64 wx, .int .i64 wid, .int .i64 wby, .string wtx] 103 kw hkw, N2.out.r.new _ (by omega)⟩
          go_upto_region 5 with (refine wpList_load_mid rfl 103 _ rfl b (5 + (i + 1) * 8) rfl [.int .i64 wc, .int .i64 ws, .int .i64 wk, .string wkey, .float .f64 wx, .int .i64 wid, .int .i64 wby, .string wtx] _ HW8.out Tryz.underlying103 rfl (by kernel_rfl) ?_)
          rw [← hkw]
          clear hkw HW8 e0
          generalize World.alloc _ _ = W3 at *
          have N3 := Go.Lib.hid (N2.out.extN X3.out)
          clear N2 X3
          obtain ⟨d0, d1, d2, d3, d4, d5, d6, d7⟩ : _ ∧ _ ∧ _ ∧ _ ∧ _ ∧ _ ∧ _ ∧ _ := ⟨B3.out.h.cell (j := 0) rfl, B3.out.h.cell (j := 1) rfl, B3.out.h.cell (j := 2) rfl, B3.out.h.cell (j := 3) rfl, B3.out.h.cell (j := 4) rfl, B3.out.h.cell (j := 5) rfl, B3.out.h.cell (j := 6) rfl, B3.out.h.cell (j := 7) rfl⟩
          have hwi : IntKind.i64.wrap ((i : Int) + 1 + 1) = ((i + 1 : Nat) : Int) + 1 := by rw [IntWalk.i64_in _ (by omega)]; omega
          by_cases hvc : wc = 0
          · have HE := Go.Lib.hid (show propN T g (i + 1) = x by rw [DS2.out, if_pos (.inl hvc)])
            subst hvc
            clear DS2
            go_wp2_with fail
            go_roundw
            case rel => exact ⟨i + 1, col1, A1, hlt, by go_num, by rw [HE.out]; exact N3, by rw [HE.out]; exact I1⟩
            case measure => simp [intOf]; omega
          · have hvb : (wc == 0) = false := by rw [beq_eq_false_iff_ne]; exact hvc
            have HVc := Go.Lib.hid hvc
            clear hvc
            go_wp2_with fail
            refine (rep_room wc ws wk wkey wx wid HVo.out.1.1 I1.out.1.b.epb _ N3.out.r).mono ?_
            rintro e w4 ⟨rfl, x4⟩
            have N4 := Go.Lib.hid (N3.out.extN x4)
            have B4 := Go.Lib.hid (B3.out.extN x4)
            clear d0 d1 d2 d3 d4 d5 d6 d7 x4 N3 B3
            cases hrm : roomB x ⟨wc, ws, ⟨wk, wkey, wx, wid⟩⟩
            · have HE := Go.Lib.hid (show propN T g (i + 1) = x by rw [DS2.out, if_pos (.inr hrm)])
              clear DS2 hrm
              go_wp2_with fail
              go_roundw
              case rel => exact ⟨i + 1, col1, A1, hlt, by go_num, by rw [HE.out]; exact N4, by rw [HE.out]; exact I1⟩
              case measure => simp [intOf]; omega
            · have HTq : Hid (TkAt T (sayG { x with next := x.next + 1, log := proposeG x.log x.next ⟨wc, ws, ⟨wk, wkey, wx, wid⟩⟩ } (msgPropose { x with next := x.next + 1, log := proposeG x.log x.next ⟨wc, ws, ⟨wk, wkey, wx, wid⟩⟩ } x.next ⟨⟨wc, ws, ⟨wk, wkey, wx, wid⟩⟩, wby, wtx⟩)) x.next ⟨wc, ws, ⟨wk, wkey, wx, wid⟩⟩) := Go.Lib.hid (HTi.out HVc.out)
              have HE := Go.Lib.hid (show propN T g (i + 1) = T (sayG { x with next := x.next + 1, log := proposeG x.log x.next ⟨wc, ws, ⟨wk, wkey, wx, wid⟩⟩ } (msgPropose { x with next := x.next + 1, log := proposeG x.log x.next ⟨wc, ws, ⟨wk, wkey, wx, wid⟩⟩ } x.next ⟨⟨wc, ws, ⟨wk, wkey, wx, wid⟩⟩, wby, wtx⟩)) x.next ⟨wc, ws, ⟨wk, wkey, wx, wid⟩⟩ by rw [DS2.out, if_neg (fun h => h.elim HVc.out (fun h => by rw [hrm] at h; cases h))])
              have HRm := Go.Lib.hid hrm
              clear DS2 hrm
              have hnx := I1.out.1.b.nx
              have hfr : firstR x = x.log.ep * 4 + 1 := rfl
              have hep := I1.out.1.b.epb
              have hrl : x.next < firstR x + 4 ∧ x.active = true := by
                have h1 := HRm.out; have h2 := HLd.out
                unfold roomB at h1; unfold leadsB at h2
                simp only [Bool.and_eq_true, decide_eq_true_eq] at h1 h2
                exact ⟨h1.2, h2.1.1.2⟩
              have hwn : IntKind.i64.wrap (x.next + 1) = x.next + 1 := IntWalk.i64_in _ (by omega)
              have HNx : Hid (I64 x.next ∧ I64 x.log.view ∧ I64 x.log.ep ∧ I64 x.id) := Go.Lib.hid (by
                have := I1.out.1.b.lg.vw; have := I1.out.1.b.id
                refine ⟨?_, ?_, ?_, ?_⟩ <;> unfold I64 <;> omega)
              have HRl := Go.Lib.hid hrl
              clear hnx hfr hep hrl
              obtain ⟨e0, e1⟩ : _ ∧ _ := ⟨N4.out.r.t0 id, N4.out.r.tnext id⟩
              have ef : w4.frozen? ⟨A1.bt, 7, none⟩ = false := N4.out.r.tf id 7
              go_upto_region 8 with fail
              have r5 := N4.out.r.setT (nx := x.next + 1) (a := x.active) (vo := x.voted) id 7 (.int .i64 (x.next + 1)) rfl
              have x5 : Ext (One A1.bt) w4 (w4.setCell ⟨A1.bt, 7, none⟩ (.int .i64 (x.next + 1))) := (Ext.refl _ _).set1 _
              have x5c : Ext (Colo col1) w4 (w4.setCell ⟨A1.bt, 7, none⟩ (.int .i64 (x.next + 1))) := x5.mono (fun k hk q => by have q : k = A1.bt := q; show col1 k ≠ 0; rw [q, N4.out.r.c2]; decide)
              have N5 := Go.Lib.hid (N4.out.same r5 rfl rfl (ColX.refl _ _) ⟨x5c, .set _ _ _⟩)
              have B5 := Go.Lib.hid (B4.out.ext x5c (ColX.refl _ _))
              clear e0 e1 ef r5 x5 x5c N4 B4
              generalize w4.setCell _ _ = w5 at *
              obtain ⟨e0, e1⟩ : _ ∧ _ := ⟨N5.out.r.t0 id, N5.out.r.tlog id⟩
              obtain ⟨d0, d1, d2, d3, d4, d5, d6, d7⟩ : _ ∧ _ ∧ _ ∧ _ ∧ _ ∧ _ ∧ _ ∧ _ := ⟨B5.out.h.cell (j := 0) rfl, B5.out.h.cell (j := 1) rfl, B5.out.h.cell (j := 2) rfl, B5.out.h.cell (j := 3) rfl, B5.out.h.cell (j := 4) rfl, B5.out.h.cell (j := 5) rfl, B5.out.h.cell (j := 6) rfl, B5.out.h.cell (j := 7) rfl⟩
              apply wp_region_rel_tail 10 (relR [Mo.is _, Mo.is _, Mo.is _, Mo.is _, Mo.is _, Mo.is _, Mo.is _, Mo.is _, Mo.is _, Mo.is _]) (by kernel_rfl) (by kernel_rfl) (by kernel_rfl) (by kernel_rfl) (by kernel_rfl) (by decide) (by kernel_rfl) (relR_mono _) (StepD.all ?st6) ?q6
              case st6 =>
                refine ⟨?_, ?_, ?_, ?_, ?_, ?_, ?_, ?_, ?_, ?_, trivial⟩
                · intro a' w' hx hs hd
                  obtain ⟨y, rfl⟩ := hx.ew
                  have e0 : a'.tmps[0]?.getD undef = _ := hs 0 rfl
                  simp only [List.getElem?_toArray, List.getElem?_cons_succ, List.getElem?_cons_zero, Option.getD_some, Array.getElem?_eq_some_iff] at e0
                  refine .inl ⟨rfl, ?_⟩
                  clear hs hd hx
                  go_simp
                  exact ⟨Ext.refl _ _, rfl⟩
                · intro a' w' hx hs hd
                  obtain ⟨y, rfl⟩ := hx.ew
                  have e60 : a'.tmps[60]?.getD undef = _ := hd 0 60 rfl rfl
                  refine .inl ⟨rfl, ?_⟩
                  clear hs hd hx
                  go_simp
                  exact ⟨Ext.refl _ _, rfl⟩
                · intro a' w' hx hs hd
                  obtain ⟨y, rfl⟩ := hx.ew
                  have e61 : a'.tmps[61]?.getD undef = _ := hd 1 61 rfl rfl
                  refine .inl ⟨rfl, ?_⟩
                  clear hs hd hx
                  go_simp
                  exact ⟨Ext.refl _ _, rfl⟩
                · intro a' w' hx hs hd
                  obtain ⟨y, rfl⟩ := hx.ew
                  have e62 : a'.tmps[62]?.getD undef = _ := hd 2 62 rfl rfl
                  refine .inl ⟨rfl, ?_⟩
                  clear hs hd hx
                  go_simp
                  exact ⟨Ext.refl _ _, rfl⟩
                · intro a' w' hx hs hd
                  obtain ⟨y, rfl⟩ := hx.ew
                  have e63 : a'.tmps[63]?.getD undef = _ := hd 3 63 rfl rfl
                  refine .inl ⟨rfl, ?_⟩
                  clear hs hd hx
                  go_simp
                  exact ⟨Ext.refl _ _, rfl⟩
                · intro a' w' hx hs hd
                  obtain ⟨y, rfl⟩ := hx.ew
                  have e64 : a'.tmps[64]?.getD undef = _ := hd 4 64 rfl rfl
                  refine .inl ⟨rfl, ?_⟩
                  clear hs hd hx
                  go_simp
                  exact ⟨Ext.refl _ _, rfl⟩
                · intro a' w' hx hs hd
                  obtain ⟨y, rfl⟩ := hx.ew
                  have e65 : a'.tmps[65]?.getD undef = _ := hd 5 65 rfl rfl
                  refine .inl ⟨rfl, ?_⟩
                  clear hs hd hx
                  go_simp
                  exact ⟨Ext.refl _ _, rfl⟩
                · intro a' w' hx hs hd
                  obtain ⟨y, rfl⟩ := hx.ew
                  have e5 : a'.tmps[5]?.getD undef = _ := hs 5 rfl
                  simp only [List.getElem?_toArray, List.getElem?_cons_succ, List.getElem?_cons_zero, Option.getD_some, Array.getElem?_eq_some_iff] at e5
                  refine .inl ⟨rfl, ?_⟩
                  clear hs hd hx
                  go_simp
                  exact ⟨Ext.refl _ _, rfl⟩
                · intro a' w' hx hs hd
                  obtain ⟨y, rfl⟩ := hx.ew
                  have e4 : a'.tmps[4]?.getD undef = _ := hs 4 rfl
                  simp only [List.getElem?_toArray, List.getElem?_cons_succ, List.getElem?_cons_zero, Option.getD_some, Array.getElem?_eq_some_iff] at e4
                  refine .inl ⟨rfl, ?_⟩
                  clear hs hd hx
                  go_simp
                  exact ⟨Ext.refl _ _, rfl⟩
                · intro a' w' hx hs hd
                  obtain ⟨y, rfl⟩ := hx.ew
                  have e68 : a'.tmps[68]?.getD undef = _ := hd 8 68 rfl rfl
                  refine .inl ⟨rfl, ?_⟩
                  clear hs hd hx
                  go_simp
                  exact ⟨Ext.refl _ _, rfl⟩
              case' q6 =>
                intro vs w' hx hRR
                obtain ⟨x6, rfl⟩ := hx.ew
                have q0 : vs 0 = _ := hRR 0 (by decide)
                have q1 : vs 1 = _ := hRR 1 (by decide)
                have q2 : vs 2 = _ := hRR 2 (by decide)
                have q3 : vs 3 = _ := hRR 3 (by decide)
                have q4 : vs 4 = _ := hRR 4 (by decide)
                have q5 : vs 5 = _ := hRR 5 (by decide)
                have q6 : vs 6 = _ := hRR 6 (by decide)
                have q7 : vs 7 = _ := hRR 7 (by decide)
                have q8 : vs 8 = _ := hRR 8 (by decide)
                have q9 : vs 9 = _ := hRR 9 (by decide)
                clear hRR hx
                simp only [putAll, List.take_succ_cons, List.take_zero, List.drop_succ_cons, List.drop_zero, Act.put, List.setIfInBounds_toArray, List.set_cons_zero, List.set_cons_succ, Nat.reduceAdd, Nat.zero_add]
                simp only [q0, q1, q2, q3, q4, q5, q6, q7, q8, q9]
                clear q0 q1 q2 q3 q4 q5 q6 q7 q8 q9 vs
              have X6 := Go.Lib.hid (by (repeat (first | with_reducible (first | exact Ext.refl _ _ | assumption | refine Ext.upN ?_ | refine Ext.alloc ?_ _ | refine Ext.drew ?_ | refine Ext.drewN ?_ _ | refine Ext.up1N (by first | omega | simp) ?_) | refine Ext.alloc ?_ _ | refine Ext.setCell ?_ (.inr (by first | omega | simp)) _)) : Ext Non w5 x6.on)
              have N6 := Go.Lib.hid (N5.out.extN X6.out)
              have B6 := Go.Lib.hid (B5.out.extN X6.out)
              clear e0 e1 d0 d1 d2 d3 d4 d5 d6 d7 N5 B5 X6
              generalize x6.on = w6 at *
              go_wp2_with fail
              obtain ⟨G, hL, hG⟩ := (N6.out.r.log id).ex
              refine (log_Propose A1.bl G _ x.next HNx.out.1 wc ws wk wkey wx wid HVo.out.1.1 _ hL).mono ?_
              rintro e w7 ⟨rfl, G', hL', hG', x7⟩
              obtain ⟨col7, r7, hc7, x7c⟩ := N6.out.r.setLog hG (x7.mono (fun k _ q => .inl q)) hL' hG' (by simp) (by simp)
              have N7 := Go.Lib.hid (N6.out.same r7 rfl rfl hc7 x7c)
              have B7 := Go.Lib.hid (B6.out.ext x7c.1 hc7)
              clear hL hG hL' hG' x7 r7 hc7 x7c N6 B6
              obtain ⟨e0, e1⟩ : _ ∧ _ := ⟨N7.out.r.t0 id, N7.out.r.tlog id⟩
              obtain ⟨d0, d1, d2, d3, d4, d5, d6, d7⟩ : _ ∧ _ ∧ _ ∧ _ ∧ _ ∧ _ ∧ _ ∧ _ := ⟨B7.out.h.cell (j := 0) rfl, B7.out.h.cell (j := 1) rfl, B7.out.h.cell (j := 2) rfl, B7.out.h.cell (j := 3) rfl, B7.out.h.cell (j := 4) rfl, B7.out.h.cell (j := 5) rfl, B7.out.h.cell (j := 6) rfl, B7.out.h.cell (j := 7) rfl⟩
              have HV : Hid (∀ w', Ext Non w7 w' → Calls Tryz.prog 53 #[.pointer (some ⟨A1.bl, 0, none⟩)] w' fun e w'' => e = .returned (.int .i64 x.log.view) ∧ Ext Non w' w'') := Go.Lib.hid (fun w' x => (rep_view w' (N7.out.r.extN x)).mono (fun e w'' ⟨he, hx⟩ => ⟨by rw [he]; simp, hx ▸ Ext.refl _ _⟩))
              go_upto_region 9 with fail
              have HN7 := Go.Lib.hid (fun k (hk : w7.heap.size ≤ k) => N7.out.r.new k hk)
              apply wp_region_rel_tail 16 (relR [Mo.is _, Mo.is _, Mo.is _, Mo.is _, Mo.is _, Mo.is _, Mo.is _, Mo.is _, Mo.is _, Mo.is _, Mo.is _, Mo.is _, Mo.is _, Mo.is _, moOne w7.heap.size [.int .i64 wby, .string wtx] 48, moAg w7.heap.size (fun k => .agg #[.int .i64 2, .int .i64 0, .int .i64 x.log.view, .int .i64 x.next, .int .i64 wc, .int .i64 ws, .int .i64 wk, .string wkey, .float .f64 wx, .int .i64 wid, .int .i64 0, .float .f64 0, .string ⟨#[]⟩, .slice none 0 0, .slice (some ⟨k, 0, none⟩) 1 1, .slice none 0 0, .slice none 0 0]) [.int .i64 wby, .string wtx] 48]) (by kernel_rfl) (by kernel_rfl) (by kernel_rfl) (by kernel_rfl) (by kernel_rfl) (by decide) (by kernel_rfl) (relR_mono _) (StepD.all ?st7) ?q7
              case st7 =>
                refine ⟨?_, ?_, ?_, ?_, ?_, ?_, ?_, ?_, ?_, ?_, ?_, ?_, ?_, ?_, ?_, ?_, trivial⟩
                · intro a' w' hx hs hd
                  obtain ⟨y, rfl⟩ := hx.ew
                  have e0 : a'.tmps[0]?.getD undef = _ := hs 0 rfl
                  simp only [List.getElem?_toArray, List.getElem?_cons_succ, List.getElem?_cons_zero, Option.getD_some, Array.getElem?_eq_some_iff] at e0
                  refine .inl ⟨rfl, ?_⟩
                  clear hs hd hx
                  go_simp
                  exact ⟨Ext.refl _ _, rfl⟩
                · intro a' w' hx hs hd
                  obtain ⟨y, rfl⟩ := hx.ew
                  have e0 : a'.tmps[0]?.getD undef = _ := hs 0 rfl
                  simp only [List.getElem?_toArray, List.getElem?_cons_succ, List.getElem?_cons_zero, Option.getD_some, Array.getElem?_eq_some_iff] at e0
                  refine .inl ⟨rfl, ?_⟩
                  clear hs hd hx
                  go_simp
                  exact ⟨Ext.refl _ _, rfl⟩
                · intro a' w' hx hs hd
                  obtain ⟨y, rfl⟩ := hx.ew
                  have e72 : a'.tmps[72]?.getD undef = _ := hd 1 72 rfl rfl
                  refine .inl ⟨rfl, ?_⟩
                  clear hs hd hx
                  go_simp
                  exact ⟨Ext.refl _ _, rfl⟩
                · intro a' w' hx hs hd
                  obtain ⟨y, rfl⟩ := hx.ew
                  have e73 : a'.tmps[73]?.getD undef = _ := hd 2 73 rfl rfl
                  refine .inl ⟨rfl, ?_⟩
                  clear hs hd hx
                  go_simp
                  exact ⟨Ext.refl _ _, rfl⟩
                · intro a' w' hx hs hd
                  obtain ⟨y, rfl⟩ := hx.ew
                  have e74 : a'.tmps[74]?.getD undef = _ := hd 3 74 rfl rfl
                  refine .inl ⟨rfl, ?_⟩
                  clear hs hd hx
                  go_simp
                  exact ⟨Ext.refl _ _, rfl⟩
                · intro a' w' hx hs hd
                  obtain ⟨y, rfl⟩ := hx.ew
                  have e75 : a'.tmps[75]?.getD undef = _ := hd 4 75 rfl rfl
                  refine .inl ⟨rfl, ?_⟩
                  clear hs hd hx
                  go_simp
                  exact ⟨Ext.refl _ _, rfl⟩
                · intro a' w' hx hs hd
                  obtain ⟨y, rfl⟩ := hx.ew
                  have e76 : a'.tmps[76]?.getD undef = _ := hd 5 76 rfl rfl
                  refine .inl ⟨rfl, ?_⟩
                  clear hs hd hx
                  go_simp
                  exact ⟨Ext.refl _ _, rfl⟩
                · intro a' w' hx hs hd
                  obtain ⟨y, rfl⟩ := hx.ew
                  have e77 : a'.tmps[77]?.getD undef = _ := hd 6 77 rfl rfl
                  refine .inl ⟨rfl, ?_⟩
                  clear hs hd hx
                  go_simp
                  exact ⟨Ext.refl _ _, rfl⟩
                · intro a' w' hx hs hd
                  obtain ⟨y, rfl⟩ := hx.ew
                  have e78 : a'.tmps[78]?.getD undef = _ := hd 7 78 rfl rfl
                  refine .inl ⟨rfl, ?_⟩
                  clear hs hd hx
                  go_simp
                  exact (HV.out _ (by (repeat (first | with_reducible (first | exact Ext.refl _ _ | assumption | refine Ext.upN ?_ | refine Ext.alloc ?_ _ | refine Ext.drew ?_ | refine Ext.drewN ?_ _ | refine Ext.up1N (by first | omega | simp) ?_) | refine Ext.alloc ?_ _ | refine Ext.setCell ?_ (.inr (by first | omega | simp)) _)))).mono (fun e w'' ⟨he, hx⟩ => ⟨_, he, hx, rfl⟩)
                · intro a' w' hx hs hd
                  obtain ⟨y, rfl⟩ := hx.ew
                  have e5 : a'.tmps[5]?.getD undef = _ := hs 5 rfl
                  simp only [List.getElem?_toArray, List.getElem?_cons_succ, List.getElem?_cons_zero, Option.getD_some, Array.getElem?_eq_some_iff] at e5
                  refine .inl ⟨rfl, ?_⟩
                  clear hs hd hx
                  go_simp
                  exact ⟨Ext.refl _ _, rfl⟩
                · intro a' w' hx hs hd
                  obtain ⟨y, rfl⟩ := hx.ew
                  have e4 : a'.tmps[4]?.getD undef = _ := hs 4 rfl
                  simp only [List.getElem?_toArray, List.getElem?_cons_succ, List.getElem?_cons_zero, Option.getD_some, Array.getElem?_eq_some_iff] at e4
                  refine .inl ⟨rfl, ?_⟩
                  clear hs hd hx
                  go_simp
                  exact ⟨Ext.refl _ _, rfl⟩
                · intro a' w' hx hs hd
                  obtain ⟨y, rfl⟩ := hx.ew
                  have e81 : a'.tmps[81]?.getD undef = _ := hd 10 81 rfl rfl
                  refine .inl ⟨rfl, ?_⟩
                  clear hs hd hx
                  go_simp
                  exact ⟨Ext.refl _ _, rfl⟩
                · intro a' w' hx hs hd
                  obtain ⟨y, rfl⟩ := hx.ew
                  have e4 : a'.tmps[4]?.getD undef = _ := hs 4 rfl
                  simp only [List.getElem?_toArray, List.getElem?_cons_succ, List.getElem?_cons_zero, Option.getD_some, Array.getElem?_eq_some_iff] at e4
                  refine .inl ⟨rfl, ?_⟩
                  clear hs hd hx
                  go_simp
                  exact ⟨Ext.refl _ _, rfl⟩
                · intro a' w' hx hs hd
                  obtain ⟨y, rfl⟩ := hx.ew
                  have e83 : a'.tmps[83]?.getD undef = _ := hd 12 83 rfl rfl
                  refine .inl ⟨rfl, ?_⟩
                  clear hs hd hx
                  go_simp
                  exact ⟨Ext.refl _ _, rfl⟩
                · intro a' w' hx hs hd
                  obtain ⟨y, rfl⟩ := hx.ew
                  have e84 : a'.tmps[84]?.getD undef = _ := hd 13 84 rfl rfl
                  refine .inl ⟨rfl, ?_⟩
                  clear hs hd hx
                  go_simp
                  exact ⟨(Ext.refl _ _).alloc _, _, rfl, y.ext.size, Bx.newAt _ [.int .i64 wby, .string wtx] _ _ rfl⟩
                · intro a' w' hx hs hd
                  obtain ⟨y, rfl⟩ := hx.ew
                  have e79 : a'.tmps[79]?.getD undef = _ := hd 8 79 rfl rfl
                  have e80 : a'.tmps[80]?.getD undef = _ := hd 9 80 rfl rfl
                  have e82 : a'.tmps[82]?.getD undef = _ := hd 11 82 rfl rfl
                  obtain ⟨k4, e85, hk4, hB4⟩ : ∃ k, a'.tmps[85]?.getD undef = .slice (some ⟨k, 0, none⟩) 1 1 ∧ w7.heap.size ≤ k ∧ Bx y.on k [.int .i64 wby, .string wtx] 48 := hd 14 85 rfl rfl
                  refine .inl ⟨rfl, ?_⟩
                  clear hs hd hx
                  go_simp
                  exact ⟨Ext.refl _ _, k4, rfl, hk4, hB4⟩
              case' q7 =>
                intro vs w' hx hRR
                obtain ⟨x8, rfl⟩ := hx.ew
                have q0 : vs 0 = _ := hRR 0 (by decide)
                have q1 : vs 1 = _ := hRR 1 (by decide)
                have q2 : vs 2 = _ := hRR 2 (by decide)
                have q3 : vs 3 = _ := hRR 3 (by decide)
                have q4 : vs 4 = _ := hRR 4 (by decide)
                have q5 : vs 5 = _ := hRR 5 (by decide)
                have q6 : vs 6 = _ := hRR 6 (by decide)
                have q7 : vs 7 = _ := hRR 7 (by decide)
                have q8 : vs 8 = _ := hRR 8 (by decide)
                have q9 : vs 9 = _ := hRR 9 (by decide)
                have q10 : vs 10 = _ := hRR 10 (by decide)
                have q11 : vs 11 = _ := hRR 11 (by decide)
                have q12 : vs 12 = _ := hRR 12 (by decide)
                have q13 : vs 13 = _ := hRR 13 (by decide)
                obtain ⟨k4, q14, hk4, hB4⟩ : ∃ k, vs 14 = .slice (some ⟨k, 0, none⟩) 1 1 ∧ w7.heap.size ≤ k ∧ Bx x8.on k [.int .i64 wby, .string wtx] 48 := hRR 14 (by decide)
                obtain ⟨k5, q15, hk5, hB5⟩ : ∃ k, vs 15 = .agg #[.int .i64 2, .int .i64 0, .int .i64 x.log.view, .int .i64 x.next, .int .i64 wc, .int .i64 ws, .int .i64 wk, .string wkey, .float .f64 wx, .int .i64 wid, .int .i64 0, .float .f64 0, .string ⟨#[]⟩, .slice none 0 0, .slice (some ⟨k, 0, none⟩) 1 1, .slice none 0 0, .slice none 0 0] ∧ w7.heap.size ≤ k ∧ Bx x8.on k [.int .i64 wby, .string wtx] 48 := hRR 15 (by decide)
                clear hRR hx
                simp only [putAll, List.take_succ_cons, List.take_zero, List.drop_succ_cons, List.drop_zero, Act.put, List.setIfInBounds_toArray, List.set_cons_zero, List.set_cons_succ, Nat.reduceAdd, Nat.zero_add]
                simp only [q0, q1, q2, q3, q4, q5, q6, q7, q8, q9, q10, q11, q12, q13, q14, q15]
                clear q0 q1 q2 q3 q4 q5 q6 q7 q8 q9 q10 q11 q12 q13 q14 q15 vs
              have X8 := Go.Lib.hid (by (repeat (first | with_reducible (first | exact Ext.refl _ _ | assumption | refine Ext.upN ?_ | refine Ext.alloc ?_ _ | refine Ext.drew ?_ | refine Ext.drewN ?_ _ | refine Ext.up1N (by first | omega | simp) ?_) | refine Ext.alloc ?_ _ | refine Ext.setCell ?_ (.inr (by first | omega | simp)) _)) : Ext Non w7 x8.on)
              have N9 := Go.Lib.hid (N7.out.extN X8.out)
              have B9 := Go.Lib.hid (B7.out.extN X8.out)
              have LZ : Hid (Loc x8.on col7 k5 [.int .i64 wby, .string wtx] 48) := Go.Lib.hid ⟨hB5, HN7.out k5 hk5⟩
              clear e0 e1 d0 d1 d2 d3 d4 d5 d6 d7 N7 B7 X8 HV hk4 hB4 hk5 hB5 HN7
              generalize x8.on = w8 at *
              go_wp2_with fail
              have M9 := MsW.propose (g := x) (slot := x.next) (v := ⟨⟨wc, ws, ⟨wk, wkey, wx, wid⟩⟩, wby, wtx⟩) LZ.out.hide HNx.out.2.1 HNx.out.1 HVo.out.1
              have HO := I1.out.1.outs
              have Q := rep_say (msgPropose x x.next ⟨⟨wc, ws, ⟨wk, wkey, wx, wid⟩⟩, wby, wtx⟩) _ _ N9.out.r M9 HNx.out.2.2.2 (by show I64 (proposeG x.log x.next ⟨wc, ws, ⟨wk, wkey, wx, wid⟩⟩).ep; rw [propose_ep]; exact HNx.out.2.2.1) (by show x.out.length + (proposeG x.log x.next ⟨wc, ws, ⟨wk, wkey, wx, wid⟩⟩).mem.length ≤ 1000000; rw [propose_mem]; exact HO.2.1) HO.2.2
              rw [cells_propose] at Q
              refine Calls.mono Q ?_
              clear Q
              rintro e wa ⟨rfl, p⟩
              obtain ⟨cola, Aa, Na', hca, xa, -⟩ := N9.out.step p
              have Na := Go.Lib.hid Na'
              have Ba := Go.Lib.hid (B9.out.ext xa hca)
              clear p Na' hca xa M9 N9 B9 LZ HO
              have HMq : msgPropose { x with next := x.next + 1, log := proposeG x.log x.next ⟨wc, ws, ⟨wk, wkey, wx, wid⟩⟩ } x.next ⟨⟨wc, ws, ⟨wk, wkey, wx, wid⟩⟩, wby, wtx⟩ = msgPropose x x.next ⟨⟨wc, ws, ⟨wk, wkey, wx, wid⟩⟩, wby, wtx⟩ := by unfold msgPropose; simp only [propose_view]
              rw [HMq] at HE HTq
              clear HMq
              have HPh := Go.Lib.hid (I1.out.1.propHead HRl.out.2 HRl.out.1 x.next ⟨wc, ws, ⟨wk, wkey, wx, wid⟩⟩ (msgPropose x x.next ⟨⟨wc, ws, ⟨wk, wkey, wx, wid⟩⟩, wby, wtx⟩))
              obtain ⟨d0, d1, d2, d3, d4, d5⟩ : _ ∧ _ ∧ _ ∧ _ ∧ _ ∧ _ := ⟨Ba.out.h.cell (j := 0) rfl, Ba.out.h.cell (j := 1) rfl, Ba.out.h.cell (j := 2) rfl, Ba.out.h.cell (j := 3) rfl, Ba.out.h.cell (j := 4) rfl, Ba.out.h.cell (j := 5) rfl⟩
              go_wp2_with fail
              refine (HTq.out _ b cola Aa wc ws wk wkey wx wid rfl Na.out.r HPh.out HNx.out.1 HVo.out.1.1).mono ?_
              rintro e wb ⟨rfl, p, ib, lb⟩
              obtain ⟨colb, Ab, Nb', -, -, -⟩ := Na.out.step p
              have lb2 : _ ≤ g.left := Int.le_trans lb (show x.left ≤ g.left from I1.out.2)
              have HF := Go.Lib.hid (And.intro Nb' (And.intro ib lb2))
              clear p Nb' ib lb lb2 d0 d1 d2 d3 d4 d5
              go_wp2_with fail
              go_roundw
              case rel => exact ⟨i + 1, colb, Ab, hlt, by go_num, by rw [HE.out]; exact Go.Lib.hid HF.out.1, by rw [HE.out]; exact Go.Lib.hid HF.out.2⟩
              case measure => simp [intOf]; omega
      · have hpe := term_other (w := wr) (k := A1.bt) (l := A.bt) (fun e => by rcases N1.out.t with ⟨h1, h2⟩ | ⟨h1, h2⟩; exact hbg h1; omega) ⟨_, _, (N1.out.r.trm id).h⟩ (N1.out.k A.bt HC2.out.1 HC2.out.2)
        have HE := Go.Lib.hid (HST.out (fun h => hbg h.1))
        clear HST
        go_wp2
        go_returns
        exact ⟨rfl, (HE.out _ _ _ N1.out).2⟩
    · have hie : i = 8 := by omega
      subst hie
      go_wp2
      go_returns
      exact ⟨rfl, by rw [DT.out, HXE.out]; exact N1.out.post, by rw [DT.out, HXE.out]; exact I1.out.1, by rw [DT.out, HXE.out]; exact I1.out.2⟩
end
end Go.Proofs.YtflpkoafebjfdaaGreat

/- Contracts of layer 18 (replica): perform. -/
namespace Go.Proofs.YtflpkoafebjfdaaGreat
open Go.RowKit Go.Lib F64
set_option linter.unusedSimpArgs false
set_option linter.unusedVariables false
attribute [local go_sem] run_store_float
attribute [local go_sem low] EW.cellN EW.frozN alloc_cell_or alloc_froz_or EW.cellF EW.frozF EW.cell1 EW.froz1
attribute [local go_sem] relAt relUpon relAtT relUponT
attribute [local go_sem low] EW.cellO EW.frozO
theorem cells_reply (g : Rp) (rc rs rk : Int) (rkey : ByteArray) (rx : Nat) (rid : Int) (dc : Int) (dx : Nat) : (Value.agg ((msgReply g ⟨rc, rs, ⟨rk, rkey, rx, rid⟩⟩ ⟨dc, dx⟩).cells nullA).toArray) = .agg #[.int .i64 8, .int .i64 g.log.ep, .int .i64 0, .int .i64 0, .int .i64 rc, .int .i64 rs, .int .i64 rk, .string rkey, .float .f64 rx, .int .i64 rid, .int .i64 dc, .float .f64 dx, .string ⟨#[]⟩, .slice none 0 0, .slice none 0 0, .slice none 0 0, .slice none 0 0] := rfl
theorem MsW.reply {w : World} {g : Rp} {q : Req} {dc : Int} {dx : Nat} (he : I64 g.log.ep) (hq : ReqOk q) (hc : I64 dc) (hx : dx < 18446744073709551616) : MsW w nullA (msgReply g q ⟨dc, dx⟩) where
  n := Ints.nil' w
  s := Sigs.nil' w
  c := Chs.nil' w
  l := Lks.nil' w
  ok := ⟨by show I64 8; unfold I64; omega, he, by show I64 0; unfold I64; omega, by show I64 0; unfold I64; omega, hq, hc, hx, by show ByteArray.empty.size ≤ _; decide⟩
/-- A store of a whole struct into the midst of a block that is told whole. -/
theorem wpList_store_in {P : Program} {ops : Array Oper} {rest : List Oper} {op : Oper} {a : Act} {w : World} {Q : Exit → Act → World → Prop} (hgd : op.guard = none) (ty : TypeId) (x y : Operand) (ho : op.op = .store ty x y)
    (k off : Nat) (vs' row : List Value) (t : TypeId) (hx : a.eval x = .pointer (some ⟨k, off, none⟩)) (hy : a.eval y = .agg vs'.toArray) (hB : Bx w k row t) (hl : off + vs'.length ≤ row.length)
    (hi : (P.info? ty).map (·.size) = some vs'.length) (h1 : ∀ v ∈ vs', v.oneCell' = true)
    (h : ∀ W : EW (One k) w, Bx W.on k (row.take off ++ (vs' ++ row.drop (off + vs'.length))) t → wpList P ops Q rest (a.put op.dst undef) W.on) : wpList P ops Q (op :: rest) a w := by
  have hT : w.there k off vs'.length := fun j hj => by
    have q : row[off + j]? = some (row[off + j]'(by omega)) := List.getElem?_eq_getElem _
    exact ⟨by rw [cell_of_heap hB.h q]; rfl, froz_of_heap hB.h⟩
  refine wpList_store_mid hgd ty x y ho k off vs'.toArray hx hy (by simpa using hT) (by simpa using hi) (all_oneCell_toArray h1)
    (h ⟨w.setCells k off vs', Ext.setCells (.inl (one_self k)) vs' off w (Ext.refl _ _)⟩ ?_)
  have hB2 := hB.h
  rw [← List.take_append_drop off row] at hB2
  have q := heap_setCells_same k t vs' off w (row.take off) (row.drop off) hB2 (by rw [List.length_take]; omega) (by rw [List.length_drop]; omega)
  rw [List.drop_drop, List.append_assoc] at q
  exact ⟨q⟩
/-- A pointer to a new block. -/
def moPt (n : Nat) (vs : List Value) (t : TypeId) : Mo := ⟨fun v w => ∃ k, v = .pointer (some ⟨k, 0, none⟩) ∧ n ≤ k ∧ Bx w k vs t, fun _ _ _ x ⟨k, e, hn, h⟩ => ⟨k, e, hn, h.extN x⟩⟩
section
variable {b : Nat} {col : Nat → Nat} {A : RA} {g : Rp}
end
end Go.Proofs.YtflpkoafebjfdaaGreat

/- Contracts of layer 18 (replica): do. Printed by wip/gen22.py. -/
namespace Go.Proofs.YtflpkoafebjfdaaGreat
open Go.RowKit Go.Lib F64
set_option linter.unusedSimpArgs false
set_option linter.unusedVariables false
attribute [local go_sem] run_store_float
attribute [local go_sem low] EW.cellN EW.frozN alloc_cell_or alloc_froz_or
attribute [local go_sem] relAt relUpon
theorem doLoop_none (k : Nat) {x : Rp} (h : fullB x.book = false) (hn : committedO x.log (x.book.done + 1) = none) : doLoop k x = x := by
  cases k with
  | zero => rfl
  | succ k => unfold doLoop; rw [if_neg (by rw [h]; simp), hn]
section
variable {b : Nat} {col : Nat → Nat} {A : RA} {g : Rp}
end
end Go.Proofs.YtflpkoafebjfdaaGreat
