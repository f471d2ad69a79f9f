/- Joined texts: Saga7, Saga8, Saga9, Saga10. What each proves stands at its head; no conditions beside those in its theorems. -/
import Derived.Test.YtekbonciafbjiaaSaga5
import Derived.Test.YtekbonciafbjiaaSagaP4
import Derived.Lib.AppendZeros
import Derived.Laws.AppendOwnNone
import Derived.Test.YtekbonciafbjiaaRel
/- Layer 22: rows of entries, rows of rows; the histories of lines. -/
namespace Go.Proofs.Ytekbonciafbjiaa
open Go.RowKit Go.Lib F64
set_option linter.unusedSimpArgs false
set_option linter.unusedVariables false
attribute [local go_sem] run_store_float
attribute [local go_sem low] EW.cellN EW.frozN alloc_cell_or alloc_froz_or EW.cellF EW.frozF EW.cell1 EW.froz1
attribute [local go_sem] relAt relUpon
/-- A line, as it comes in. -/
structure Ln where
  slot : Int
  ask : Ak
def Ln.cells (o : Ln) : List Value := .int .i64 o.slot :: o.ask.cells
def Ln.en (o : Ln) : En := ⟨o.slot, o.ask.req⟩
instance : Inhabited Ln := ⟨⟨0, default⟩⟩
def En.cells (o : En) : List Value := .int .i64 o.slot :: o.req.cells
def En.ok (o : En) : Prop := I64 o.slot ∧ ReqOk o.req
structure Lns (w : World) (a : Option Addr) (cap : Nat) (l : List Ln) : Prop where
  le : l.length ≤ cap
  small : cap ≤ 9223372036854775807
  at_ : ∀ j (h : j < l.length), ∃ b o, a = some ⟨b, o, none⟩ ∧ b < w.heap.size ∧ (∀ i v, (l[j].cells)[i]? = some v → w.cell? ⟨b, o + j * 7 + i, none⟩ = some v) ∧ l[j].en.ok
structure LLs (w : World) (a : Option Addr) (cap : Nat) (l : List (List Ln)) : Prop where
  le : l.length ≤ cap
  small : cap ≤ 9223372036854775807
  at_ : ∀ j (h : j < l.length), ∃ b o ia ic, a = some ⟨b, o, none⟩ ∧ b < w.heap.size ∧ w.cell? ⟨b, o + j, none⟩ = some (.slice ia (l[j]).length ic) ∧ Lns w ia ic l[j]
structure Ens (w : World) (a : Option Addr) (cap : Nat) (l : List En) : Prop where
  le : l.length ≤ cap
  small : cap ≤ 9223372036854775807
  none_ : a = none → cap = 0
  at_ : ∀ j (h : j < l.length), ∃ b o, a = some ⟨b, o, none⟩ ∧ b < w.heap.size ∧ (∀ i v, (l[j].cells)[i]? = some v → w.cell? ⟨b, o + j * 7 + i, none⟩ = some v)
/-- Rows of entries with their addresses. -/
abbrev EnR := Option Addr × Nat × List En
def enrCell (r : EnR) : List Value := [.slice r.1 r.2.2.length r.2.1]
structure EEs (w : World) (a : Option Addr) (cap : Nat) (l : List EnR) : Prop where
  le : l.length ≤ cap
  small : cap ≤ 9223372036854775807
  none_ : a = none → cap = 0
  at_ : ∀ j (h : j < l.length), ∃ b o, a = some ⟨b, o, none⟩ ∧ b < w.heap.size ∧ w.cell? ⟨b, o + j, none⟩ = some (.slice (l[j]).1 (l[j]).2.2.length (l[j]).2.1) ∧ Ens w (l[j]).1 (l[j]).2.1 (l[j]).2.2
theorem Lns.extN {w w' : World} {a : Option Addr} {cap : Nat} {l : List Ln} (h : Lns w a cap l) (x : Ext Non w w') : Lns w' a cap l :=
  ⟨h.le, h.small, fun j hj => by
    obtain ⟨b, o, e, hb, c, r⟩ := h.at_ j hj
    exact ⟨b, o, e, Nat.lt_of_lt_of_le hb x.size, fun i v hv => (x.cell (p := ⟨b, o + j * 7 + i, none⟩) hb (fun f => f)).trans (c i v hv), r⟩⟩
theorem Ens.extN {w w' : World} {a : Option Addr} {cap : Nat} {l : List En} (h : Ens w a cap l) (x : Ext Non w w') : Ens w' a cap l :=
  ⟨h.le, h.small, h.none_, fun j hj => by
    obtain ⟨b, o, e, hb, c⟩ := h.at_ j hj
    exact ⟨b, o, e, Nat.lt_of_lt_of_le hb x.size, fun i v hv => (x.cell (p := ⟨b, o + j * 7 + i, none⟩) hb (fun f => f)).trans (c i v hv)⟩⟩
theorem EEs.extN {w w' : World} {a : Option Addr} {cap : Nat} {l : List EnR} (h : EEs w a cap l) (x : Ext Non w w') : EEs w' a cap l :=
  ⟨h.le, h.small, h.none_, fun j hj => by
    obtain ⟨b, o, e, hb, c, r⟩ := h.at_ j hj
    exact ⟨b, o, e, Nat.lt_of_lt_of_le hb x.size, (x.cell (p := ⟨b, o + j, none⟩) hb (fun f => f)).trans c, r.extN x⟩⟩
theorem own_none {w : World} {base : Nat} {e : TypeId} {k : Nat} {a : Option Addr} {n cap : Nat} {xs : List Value} (h : w.ownsRow base e k (.slice a n cap) n xs) : a = none → cap = 0 := fun ha => by
  rcases h.2 with ⟨e, -⟩ | ⟨g, c, cur, e, -⟩
  · injection e
  · rw [ha] at e; injection e with e; cases e
theorem ens_of_own {w : World} {base : Nat} {e : TypeId} {v : Value} (l : List En) (h : w.ownsRow base e 7 v l.length (l.flatMap En.cells)) : ∃ a cap, v = .slice a l.length cap ∧ Ens w a cap l := by
  obtain ⟨a, cap, rfl, h1, h2, h3⟩ := ownA_rows l En.cells (fun _ => rfl) h
  exact ⟨a, cap, rfl, h1, h2, own_none h, fun j hj => by
    obtain ⟨g, rfl, hg, hc⟩ := h3 j hj
    exact ⟨g, 0, rfl, hg, hc⟩⟩
def EnrOk (base : Nat) (w : World) (r : EnR) : Prop := w.ownsRow base 62 7 (.slice r.1 r.2.2.length r.2.1) r.2.2.length (r.2.2.flatMap En.cells)
theorem ees_of_own {w : World} {base base2 : Nat} {e : TypeId} {v : Value} (rs : List EnR) (h : w.ownsRow base e 1 v rs.length (rs.flatMap enrCell)) (hr : ∀ r ∈ rs, EnrOk base2 w r) : ∃ a cap, v = .slice a rs.length cap ∧ EEs w a cap rs := by
  obtain ⟨a, cap, rfl, h1, h2, h3⟩ := ownA_rows rs enrCell (fun _ => rfl) h
  refine ⟨a, cap, rfl, h1, h2, own_none h, fun j hj => ?_⟩
  obtain ⟨g, rfl, hg, hc⟩ := h3 j hj
  have hk := hr _ (List.getElem_mem hj)
  obtain ⟨ia, ic, e2, hE⟩ := ens_of_own _ hk
  injection e2 with e2 _ e3
  have hc0 := hc 0 _ rfl
  refine ⟨g, 0, rfl, hg, ?_, ?_⟩
  · simpa using hc0
  · rw [e2, e3]; exact hE
def moBs (base : Nat) (vs : List Value) (t : TypeId) : Mo := ⟨fun v w => ∃ g, v = .slice (some ⟨g, 0, none⟩) 1 1 ∧ base ≤ g ∧ Bx w g vs t, fun _ _ _ x ⟨g, e, l, h⟩ => ⟨g, e, l, h.extN x⟩⟩
theorem own_shapeE {w : World} {base : Nat} {e : TypeId} {k : Nat} {v : Value} {n : Nat} {xs : List Value} (h : w.ownsRow base e k v n xs) : ∃ a cap, v = .slice a n cap ∧ n ≤ cap ∧ cap ≤ 9223372036854775807 := own_shape h
theorem info_entry : (Try.prog.info? 62).map (fun i => (i.zero, i.size, i.bytes)) = some (some (.agg #[.int .i64 0, .int .i64 0, .int .i64 0, .int .i64 0, .string ByteArray.empty, .float .f64 0, .int .i64 0]), 7, 64) := by kernel_rfl
theorem info_entries : (Try.prog.info? 60).map (fun i => (i.zero, i.size, i.bytes)) = some (some (.slice none 0 0), 1, 24) := by kernel_rfl
def ensOf (l : List Ln) : List En := l.map Ln.en
theorem ensOf_get {l : List Ln} {k : Nat} (h : k < l.length) (h' : k < (ensOf l).length) : (ensOf l)[k] = (l[k]).en := List.getElem_map ..
set_option maxHeartbeats 4000000 in
set_option maxRecDepth 100000 in
theorem law22_histories (a : Option Addr) (cap : Nat) (l : List (List Ln)) (hlim : l.length ≤ 1048576 ∧ ∀ x ∈ l, x.length ≤ 1048576) (w : World) (h : LLs w a cap l) : Calls Try.prog 18 #[.slice a l.length cap] w fun e w' =>
    ∃ ra rc rs, e = .returned (.slice ra rs.length rc) ∧ rs.map (·.2.2) = l.map ensOf ∧ EEs w' ra rc rs ∧ Ext Non w w' := by
  have HA := Go.Lib.hid h
  have s1 := h.small; have s2 := h.le
  have hl1 := hlim.1
  have HLM := Go.Lib.hid hlim.2
  clear h hlim
  have ROW0 : Hid (w.ownsRow w.heap.size 60 1 (.slice none 0 0) ([] : List EnR).length (([] : List EnR).flatMap enrCell)) := Go.Lib.hid (World.ownsRow_nil _ _ _ _)
  go_enter Try.func18, Try.ntmps18
  go_wp2_with fail
  go_loopg [3, 4, 5, 6] l.length (fun n ov iv v5 v6 wr => ∃ (v : Value) (i : Nat) (rs : List EnR) (z : EW Non w), v = ov ∧ i ≤ l.length ∧ n = l.length - i ∧ iv = .int .i64 i ∧ wr = z.on ∧ Hid (wr.ownsRow w.heap.size 60 1 v rs.length (rs.flatMap enrCell)) ∧ Hid (∀ r ∈ rs, EnrOk w.heap.size wr r) ∧ Hid (rs.map (·.2.2) = (l.take i).map ensOf))
  case atStart => exact ⟨_, 0, [], ⟨_, by (repeat (first | with_reducible exact Ext.refl _ _ | assumption | with_reducible refine Ext.upN ?_ | with_reducible refine Ext.alloc ?_ _ | with_reducible refine Ext.upA (by assumption) ?_ | with_reducible refine Ext.upW ?_ | with_reducible refine Ext.drew ?_ | with_reducible refine Ext.drewN ?_ _ | with_reducible refine Ext.upF ?_ | with_reducible refine Ext.upFF (by first | omega | simp) ?_ | with_reducible refine Ext.setCellsF _ _ _ (by first | omega | simp) ?_ | with_reducible refine Ext.setCellF _ _ _ (by first | omega | simp) ?_ | with_reducible refine Ext.upFN (by first | omega | simp) ?_ | with_reducible refine Ext.up1F (by first | omega | simp) ?_ | with_reducible refine Ext.up1N (by first | omega | simp) ?_ | with_reducible refine Ext.setCell ?_ (.inr (by first | omega | simp)) _ | refine Ext.alloc ?_ _ | refine Ext.setCellF _ _ _ (by first | omega | simp) ?_ | refine Ext.setCell ?_ (.inr (by first | omega | simp)) _))⟩, rfl, Nat.zero_le _, rfl, rfl, rfl, ROW0, Go.Lib.hid (fun r hr => absurd hr List.not_mem_nil), Go.Lib.hid rfl⟩
  case round =>
    clear ROW0
    obtain ⟨v, i, rs, z, rfl, hi, hn, rfl, rfl, HO, HR, HM⟩ := hrel
    have HN := Go.Lib.hid hn; clear hn
    have hrl : rs.length = i := by have h := congrArg List.length HM.out; simp at h; omega
    by_cases hlt : i < l.length
    · obtain ⟨ab, ao, ia, ic, rfl, hab, hc, hin⟩ := HA.out.at_ i hlt
      have HI := Go.Lib.hid hin
      have hxl : (l[i]).length ≤ 1048576 := HLM.out _ (List.getElem_mem hlt)
      have HT : Hid ((l.take (i + 1)).map ensOf = (l.take i).map ensOf ++ [ensOf l[i]]) := Go.Lib.hid (by rw [List.take_succ_eq_append_getElem hlt, List.map_append]; rfl)
      have hs1 := hin.small; have hs2 := hin.le
      generalize l[i] = ln at *
      clear hin
      have R0 : Hid (z.on.ownsRow z.on.heap.size 62 7 (.slice none 0 0) 0 (((ensOf ln).take 0).flatMap En.cells)) := Go.Lib.hid (World.ownsRow_nil _ _ _ _)
      go_wp2_with fail
      go_loopg [5, 6] ln.length (fun n hv kv wr => ∃ (v2 : Value) (k : Nat) (u : EW Non z.on), v2 = hv ∧ k ≤ ln.length ∧ n = ln.length - k ∧ kv = .int .i64 k ∧ wr = u.on ∧ Hid (wr.ownsRow z.on.heap.size 62 7 v2 k (((ensOf ln).take k).flatMap En.cells)))
      case atStart => exact ⟨_, 0, ⟨_, by (repeat (first | with_reducible exact Ext.refl _ _ | assumption | with_reducible refine Ext.upN ?_ | with_reducible refine Ext.alloc ?_ _ | with_reducible refine Ext.upA (by assumption) ?_ | with_reducible refine Ext.upW ?_ | with_reducible refine Ext.drew ?_ | with_reducible refine Ext.drewN ?_ _ | with_reducible refine Ext.upF ?_ | with_reducible refine Ext.upFF (by first | omega | simp) ?_ | with_reducible refine Ext.setCellsF _ _ _ (by first | omega | simp) ?_ | with_reducible refine Ext.setCellF _ _ _ (by first | omega | simp) ?_ | with_reducible refine Ext.upFN (by first | omega | simp) ?_ | with_reducible refine Ext.up1F (by first | omega | simp) ?_ | with_reducible refine Ext.up1N (by first | omega | simp) ?_ | with_reducible refine Ext.setCell ?_ (.inr (by first | omega | simp)) _ | refine Ext.alloc ?_ _ | refine Ext.setCellF _ _ _ (by first | omega | simp) ?_ | refine Ext.setCell ?_ (.inr (by first | omega | simp)) _))⟩, rfl, Nat.zero_le _, rfl, rfl, rfl, R0⟩
      case round =>
        clear R0
        obtain ⟨v2, k, u, rfl, hk, hkn, rfl, rfl, HP⟩ := hrel
        have HKN := Go.Lib.hid hkn; clear hkn
        by_cases hkl : k < ln.length
        · obtain ⟨bb, bo, rfl, hbb, hbc, -⟩ := HI.out.at_ k hkl
          have HE : Hid (((ensOf ln).take (k + 1)).flatMap En.cells = ((ensOf ln).take k).flatMap En.cells ++ (ln[k]).en.cells) := Go.Lib.hid (by
            have hkl' : k < (ensOf ln).length := by unfold ensOf; simpa using hkl
            have e1 := ensOf_get hkl hkl'
            rw [List.take_succ_eq_append_getElem hkl', List.flatMap_append, e1, List.flatMap_cons, List.flatMap_nil, List.append_nil])
          generalize ln[k] = o at *
          obtain ⟨sl, ⟨c, s, kk, key, b, id⟩⟩ := o
          have q0 : w.cell? ⟨bb, bo + k * 7, none⟩ = some (.int .i64 sl) := hbc 0 _ rfl
          have q1 : w.cell? ⟨bb, bo + k * 7 + 1, none⟩ = some (.int .i64 c) := hbc 1 _ rfl
          have q2 : w.cell? ⟨bb, bo + k * 7 + 2, none⟩ = some (.int .i64 s) := hbc 2 _ rfl
          have q3 : w.cell? ⟨bb, bo + k * 7 + 3, none⟩ = some (.int .i64 kk) := hbc 3 _ rfl
          have q4 : w.cell? ⟨bb, bo + k * 7 + 4, none⟩ = some (.string key) := hbc 4 _ rfl
          have q5 : w.cell? ⟨bb, bo + k * 7 + 5, none⟩ = some (.int .u64 b) := hbc 5 _ rfl
          have q6 : w.cell? ⟨bb, bo + k * 7 + 6, none⟩ = some (.int .i64 id) := hbc 6 _ rfl
          have RQ := Go.Lib.hid (fun w => law11_Request c s kk key b id w)
          clear hbc
          go_upto_region 9 with fail
          apply wp_region_rel_tail 20 (relR [Mo.is _, Mo.is _, Mo.is _, Mo.is _, Mo.is _, Mo.is _, Mo.is _, Mo.is _, Mo.is _, Mo.is _, Mo.is _, Mo.is _, Mo.is _, Mo.is _, Mo.is _, Mo.is _, Mo.is _, Mo.is _, Mo.is _, moBs u.on.heap.size [.int .i64 sl, .int .i64 c, .int .i64 s, .int .i64 kk, .string key, .float .f64 b.toNat, .int .i64 id] 62]) (by kernel_rfl) (by kernel_rfl) (by kernel_rfl) (by kernel_rfl) (by kernel_rfl) (by decide) (by kernel_rfl) (relR_mono _) (StepD.all ?st1) ?q1
          case st1 =>
            refine ⟨?_, ?_, ?_, ?_, ?_, ?_, ?_, ?_, ?_, ?_, ?_, ?_, ?_, ?_, ?_, ?_, ?_, ?_, ?_, ?_, trivial⟩
            · intro a' w' hx hs hd
              obtain ⟨y, rfl⟩ := hx.ew
              have e5 : a'.tmps[5]?.getD undef = _ := hs 5 rfl
              simp only [List.getElem?_toArray, List.getElem?_cons_succ, List.getElem?_cons_zero, Option.getD_some, Array.getElem?_eq_some_iff] at e5
              refine .inl ⟨rfl, ?_⟩
              clear hs hd hx
              go_simp
              exact ⟨Ext.refl _ _, rfl⟩
            · intro a' w' hx hs hd
              obtain ⟨y, rfl⟩ := hx.ew
              have e0 : a'.tmps[0]?.getD undef = _ := hs 0 rfl
              simp only [List.getElem?_toArray, List.getElem?_cons_succ, List.getElem?_cons_zero, Option.getD_some, Array.getElem?_eq_some_iff] at e0
              refine .inl ⟨rfl, ?_⟩
              clear hs hd hx
              go_simp
              exact ⟨Ext.refl _ _, rfl⟩
            · intro a' w' hx hs hd
              obtain ⟨y, rfl⟩ := hx.ew
              have e4 : a'.tmps[4]?.getD undef = _ := hs 4 rfl
              simp only [List.getElem?_toArray, List.getElem?_cons_succ, List.getElem?_cons_zero, Option.getD_some, Array.getElem?_eq_some_iff] at e4
              refine .inl ⟨rfl, ?_⟩
              clear hs hd hx
              go_simp
              exact ⟨Ext.refl _ _, rfl⟩
            · intro a' w' hx hs hd
              obtain ⟨y, rfl⟩ := hx.ew
              have e23 : a'.tmps[23]?.getD undef = _ := hd 1 23 rfl rfl
              have e24 : a'.tmps[24]?.getD undef = _ := hd 2 24 rfl rfl
              refine .inl ⟨rfl, ?_⟩
              clear hs hd hx
              go_simp
              exact ⟨Ext.refl _ _, rfl⟩
            · intro a' w' hx hs hd
              obtain ⟨y, rfl⟩ := hx.ew
              have e25 : a'.tmps[25]?.getD undef = _ := hd 3 25 rfl rfl
              refine .inl ⟨rfl, ?_⟩
              clear hs hd hx
              go_simp
              exact ⟨Ext.refl _ _, rfl⟩
            · intro a' w' hx hs hd
              obtain ⟨y, rfl⟩ := hx.ew
              have e6 : a'.tmps[6]?.getD undef = _ := hs 6 rfl
              simp only [List.getElem?_toArray, List.getElem?_cons_succ, List.getElem?_cons_zero, Option.getD_some, Array.getElem?_eq_some_iff] at e6
              refine .inl ⟨rfl, ?_⟩
              clear hs hd hx
              go_simp
              exact ⟨Ext.refl _ _, rfl⟩
            · intro a' w' hx hs hd
              obtain ⟨y, rfl⟩ := hx.ew
              have e26 : a'.tmps[26]?.getD undef = _ := hd 4 26 rfl rfl
              have e27 : a'.tmps[27]?.getD undef = _ := hd 5 27 rfl rfl
              refine .inl ⟨rfl, ?_⟩
              clear hs hd hx
              go_simp
              exact ⟨Ext.refl _ _, rfl⟩
            · intro a' w' hx hs hd
              obtain ⟨y, rfl⟩ := hx.ew
              have e28 : a'.tmps[28]?.getD undef = _ := hd 6 28 rfl rfl
              refine .inl ⟨rfl, ?_⟩
              clear hs hd hx
              go_simp
              exact ⟨Ext.refl _ _, rfl⟩
            · intro a' w' hx hs hd
              obtain ⟨y, rfl⟩ := hx.ew
              have e29 : a'.tmps[29]?.getD undef = _ := hd 7 29 rfl rfl
              refine .inl ⟨rfl, ?_⟩
              clear hs hd hx
              go_simp
              exact ⟨Ext.refl _ _, rfl⟩
            · intro a' w' hx hs hd
              obtain ⟨y, rfl⟩ := hx.ew
              have e0 : a'.tmps[0]?.getD undef = _ := hs 0 rfl
              simp only [List.getElem?_toArray, List.getElem?_cons_succ, List.getElem?_cons_zero, Option.getD_some, Array.getElem?_eq_some_iff] at e0
              refine .inl ⟨rfl, ?_⟩
              clear hs hd hx
              go_simp
              exact ⟨Ext.refl _ _, rfl⟩
            · intro a' w' hx hs hd
              obtain ⟨y, rfl⟩ := hx.ew
              have e4 : a'.tmps[4]?.getD undef = _ := hs 4 rfl
              simp only [List.getElem?_toArray, List.getElem?_cons_succ, List.getElem?_cons_zero, Option.getD_some, Array.getElem?_eq_some_iff] at e4
              refine .inl ⟨rfl, ?_⟩
              clear hs hd hx
              go_simp
              exact ⟨Ext.refl _ _, rfl⟩
            · intro a' w' hx hs hd
              obtain ⟨y, rfl⟩ := hx.ew
              have e31 : a'.tmps[31]?.getD undef = _ := hd 9 31 rfl rfl
              have e32 : a'.tmps[32]?.getD undef = _ := hd 10 32 rfl rfl
              refine .inl ⟨rfl, ?_⟩
              clear hs hd hx
              go_simp
              exact ⟨Ext.refl _ _, rfl⟩
            · intro a' w' hx hs hd
              obtain ⟨y, rfl⟩ := hx.ew
              have e33 : a'.tmps[33]?.getD undef = _ := hd 11 33 rfl rfl
              refine .inl ⟨rfl, ?_⟩
              clear hs hd hx
              go_simp
              exact ⟨Ext.refl _ _, rfl⟩
            · intro a' w' hx hs hd
              obtain ⟨y, rfl⟩ := hx.ew
              have e6 : a'.tmps[6]?.getD undef = _ := hs 6 rfl
              simp only [List.getElem?_toArray, List.getElem?_cons_succ, List.getElem?_cons_zero, Option.getD_some, Array.getElem?_eq_some_iff] at e6
              refine .inl ⟨rfl, ?_⟩
              clear hs hd hx
              go_simp
              exact ⟨Ext.refl _ _, rfl⟩
            · intro a' w' hx hs hd
              obtain ⟨y, rfl⟩ := hx.ew
              have e34 : a'.tmps[34]?.getD undef = _ := hd 12 34 rfl rfl
              have e35 : a'.tmps[35]?.getD undef = _ := hd 13 35 rfl rfl
              refine .inl ⟨rfl, ?_⟩
              clear hs hd hx
              go_simp
              exact ⟨Ext.refl _ _, rfl⟩
            · intro a' w' hx hs hd
              obtain ⟨y, rfl⟩ := hx.ew
              have e36 : a'.tmps[36]?.getD undef = _ := hd 14 36 rfl rfl
              refine .inl ⟨rfl, ?_⟩
              clear hs hd hx
              go_simp
              exact ⟨Ext.refl _ _, rfl⟩
            · intro a' w' hx hs hd
              obtain ⟨y, rfl⟩ := hx.ew
              have e37 : a'.tmps[37]?.getD undef = _ := hd 15 37 rfl rfl
              refine .inl ⟨rfl, ?_⟩
              clear hs hd hx
              go_simp
              exact ⟨Ext.refl _ _, rfl⟩
            · intro a' w' hx hs hd
              obtain ⟨y, rfl⟩ := hx.ew
              have e38 : a'.tmps[38]?.getD undef = _ := hd 16 38 rfl rfl
              refine .inl ⟨rfl, ?_⟩
              clear hs hd hx
              go_simp
              exact (RQ.out _).mono (fun e w'' ⟨he, hx⟩ => ⟨_, he, hx, rfl⟩)
            · intro a' w' hx hs hd
              obtain ⟨y, rfl⟩ := hx.ew
              have e30 : a'.tmps[30]?.getD undef = _ := hd 8 30 rfl rfl
              have e39 : a'.tmps[39]?.getD undef = _ := hd 17 39 rfl rfl
              refine .inl ⟨rfl, ?_⟩
              clear hs hd hx
              go_simp
              exact ⟨Ext.refl _ _, rfl⟩
            · intro a' w' hx hs hd
              obtain ⟨y, rfl⟩ := hx.ew
              have e40 : a'.tmps[40]?.getD undef = _ := hd 18 40 rfl rfl
              refine .inl ⟨rfl, ?_⟩
              clear hs hd hx
              go_simp
              exact ⟨(Ext.refl _ _).alloc _, _, rfl, y.ext.size, Bx.newAt _ _ _ _ rfl⟩
          case' q1 =>
            intro vs w' hx hRR
            obtain ⟨x4, rfl⟩ := hx.ew
            have q0 : vs 0 = _ := hRR 0 (by decide)
            have q1 : vs 1 = _ := hRR 1 (by decide)
            have q2 : vs 2 = _ := hRR 2 (by decide)
            have q3 : vs 3 = _ := hRR 3 (by decide)
            have q4 : vs 4 = _ := hRR 4 (by decide)
            have q5 : vs 5 = _ := hRR 5 (by decide)
            have q6 : vs 6 = _ := hRR 6 (by decide)
            have q7 : vs 7 = _ := hRR 7 (by decide)
            have q8 : vs 8 = _ := hRR 8 (by decide)
            have q9 : vs 9 = _ := hRR 9 (by decide)
            have q10 : vs 10 = _ := hRR 10 (by decide)
            have q11 : vs 11 = _ := hRR 11 (by decide)
            have q12 : vs 12 = _ := hRR 12 (by decide)
            have q13 : vs 13 = _ := hRR 13 (by decide)
            have q14 : vs 14 = _ := hRR 14 (by decide)
            have q15 : vs 15 = _ := hRR 15 (by decide)
            have q16 : vs 16 = _ := hRR 16 (by decide)
            have q17 : vs 17 = _ := hRR 17 (by decide)
            have q18 : vs 18 = _ := hRR 18 (by decide)
            obtain ⟨gb, q19, hgb, hBb⟩ : ∃ g, vs 19 = .slice (some ⟨g, 0, none⟩) 1 1 ∧ u.on.heap.size ≤ g ∧ Bx x4.on g [.int .i64 sl, .int .i64 c, .int .i64 s, .int .i64 kk, .string key, .float .f64 b.toNat, .int .i64 id] 62 := hRR 19 (by decide)
            clear hRR hx
            simp only [putAll, List.take_succ_cons, List.take_zero, List.drop_succ_cons, List.drop_zero, Act.put, List.setIfInBounds_toArray, List.set_cons_zero, List.set_cons_succ, Nat.reduceAdd, Nat.zero_add]
            simp only [q0, q1, q2, q3, q4, q5, q6, q7, q8, q9, q10, q11, q12, q13, q14, q15, q16, q17, q18, q19]
            clear q0 q1 q2 q3 q4 q5 q6 q7 q8 q9 q10 q11 q12 q13 q14 q15 q16 q17 q18 q19 vs
          have HB := Go.Lib.hid hBb
          clear hBb
          have XU : Ext Non u.on x4.on := x4.ext
          have hzz : z.on.heap.size ≤ x4.on.heap.size := by have h1 := x4.ext.size; have h2 := u.ext.size; omega
          have hgz : z.on.heap.size ≤ gb := by have h2 := u.ext.size; omega
          go_wp2_with (at_builtin; refine wpList_append_rowB rfl _ _ 60 rfl z.on.heap.size 62 7 64 _ Try.underlying60 info_entry (by rfl) (by omega) v2 k _ rfl (ownR_extN HP.out XU) gb [.int .i64 sl, .int .i64 c, .int .i64 s, .int .i64 kk, .string key, .float .f64 b.toNat, .int .i64 id] 62 rfl HB.out rfl (by simp [Value.oneCell']) (by omega) (by omega) hzz (fun v' W2 hO hrow => ?_); have HO2 := Go.Lib.hid hO; clear hO hrow)
          have XF : Ext Non z.on W2.on := (u.ext.trans XU).step W2.ext (fun j hj h => by have := (own_row HP.out j h).1; omega)
          go_roundg (ln.length - (k + 1))
          case measure => have := HKN.out; omega
          case rel => exact ⟨_, k + 1, ⟨_, XF⟩, rfl, hkl, rfl, by go_num, rfl, Go.Lib.hid (by rw [HE.out]; exact HO2.out)⟩
        · obtain rfl : k = ln.length := by omega
          have hp := HP.out
          have el : (ensOf ln).length = ln.length := by unfold ensOf; simp
          rw [← el, List.take_length] at hp
          obtain ⟨ha, hcap, e, -, -⟩ := own_shapeE hp
          rw [el] at e
          subst e
          have XZ : Ext Non z.on u.on := u.ext
          have hO1 := ownR_extN HO.out XZ
          have hR1 : ∀ r ∈ rs, EnrOk w.heap.size u.on r := fun r hr => ownR_extN (HR.out r hr) XZ
          have hP1 : EnrOk w.heap.size u.on (ha, hcap, ensOf ln) := by
            unfold EnrOk
            rw [el]
            rw [el] at hp
            exact ownR_base hp z.ext.size
          have HO1 := Go.Lib.hid hO1; have HR1 := Go.Lib.hid hR1; have HP1 := Go.Lib.hid hP1
          have hsz : w.heap.size ≤ u.on.heap.size := by have h1 := u.ext.size; have h2 := z.ext.size; omega
          have XW1 : Ext Non w u.on := z.ext.trans u.ext
          have hb24 : (rs.length + 1) * 24 ≤ 140737488355328 := by omega
          clear hp hO1 hR1 hP1
          go_wp2_with (at_builtin; refine wpList_append_rowB rfl _ _ 53 rfl w.heap.size 60 1 24 _ Try.underlying53 info_entries (by rfl) (by omega) v rs.length _ rfl (ownR_extN HO1.out ((Ext.refl Non u.on).alloc (.cells [.slice ha ln.length hcap].toArray 60))) u.on.heap.size [.slice ha ln.length hcap] 60 rfl (Bx.newAt _ _ _ _ rfl) rfl (by simp [Value.oneCell']) hb24 (by omega) (Nat.le_trans hsz (by simp)) (fun v' W2 hO hrow => ?_); have HO2 := Go.Lib.hid hO; clear hO hrow)
          have XA : Ext Non u.on (u.on.alloc (.cells [.slice ha ln.length hcap].toArray 60)) := (Ext.refl _ _).alloc _
          have XF : Ext Non w W2.on := (XW1.trans XA).step W2.ext (fun j hj h => by have := (own_row HO1.out j h).1; omega)
          have ke : ∀ r, EnrOk w.heap.size u.on r → EnrOk w.heap.size W2.on r := fun r hr => ownR_ext (ownR_extN hr XA) W2.ext (row_ne (ownR_extN hr XA) (ownR_extN HO1.out XA) (by decide))
          have HR2 : Hid (∀ r ∈ rs ++ [(ha, hcap, ensOf ln)], EnrOk w.heap.size W2.on r) := Go.Lib.hid (fun r hr => by
            rcases List.mem_append.1 hr with hr | hr
            · exact ke r (HR1.out r hr)
            · simp at hr; subst hr; exact ke _ HP1.out)
          have HM2 : Hid ((rs ++ [(ha, hcap, ensOf ln)]).map (·.2.2) = (l.take (i + 1)).map ensOf) := Go.Lib.hid (by rw [List.map_append, HM.out, HT.out]; rfl)
          have HO3 : Hid (W2.on.ownsRow w.heap.size 60 1 v' (rs ++ [(ha, hcap, ensOf ln)]).length ((rs ++ [(ha, hcap, ensOf ln)]).flatMap enrCell)) := Go.Lib.hid (by
            have e3 : enrCell (ha, hcap, ensOf ln) = [.slice ha ln.length hcap] := by unfold enrCell; rw [el]
            rw [List.length_append, List.flatMap_append, List.flatMap_cons, List.flatMap_nil, List.append_nil, e3]
            exact HO2.out)
          go_roundg (l.length - (i + 1))
          case measure => have := HN.out; omega
          case rel => exact ⟨_, i + 1, rs ++ [(ha, hcap, ensOf ln)], ⟨_, XF⟩, rfl, hlt, rfl, by go_num, rfl, HO3, HR2, HM2⟩
    · obtain rfl : i = l.length := by omega
      obtain ⟨ra, rc, e, hE⟩ := ees_of_own rs HO.out HR.out
      subst e
      have HE := Go.Lib.hid hE
      have hm := HM.out
      rw [List.take_length] at hm
      have HM2 := Go.Lib.hid hm
      clear hE hm
      go_wp2
      go_ret
      exact ⟨ra, rc, rs, rfl, HM2.out, HE.out.extN (by (repeat (first | with_reducible exact Ext.refl _ _ | assumption | with_reducible refine Ext.upN ?_ | with_reducible refine Ext.alloc ?_ _ | with_reducible refine Ext.upA (by assumption) ?_ | with_reducible refine Ext.upW ?_ | with_reducible refine Ext.drew ?_ | with_reducible refine Ext.drewN ?_ _ | with_reducible refine Ext.upF ?_ | with_reducible refine Ext.upFF (by first | omega | simp) ?_ | with_reducible refine Ext.setCellsF _ _ _ (by first | omega | simp) ?_ | with_reducible refine Ext.setCellF _ _ _ (by first | omega | simp) ?_ | with_reducible refine Ext.upFN (by first | omega | simp) ?_ | with_reducible refine Ext.up1F (by first | omega | simp) ?_ | with_reducible refine Ext.up1N (by first | omega | simp) ?_ | with_reducible refine Ext.setCell ?_ (.inr (by first | omega | simp)) _ | refine Ext.alloc ?_ _ | refine Ext.setCellF _ _ _ (by first | omega | simp) ?_ | refine Ext.setCell ?_ (.inr (by first | omega | simp)) _))), by (repeat (first | with_reducible exact Ext.refl _ _ | assumption | with_reducible refine Ext.upN ?_ | with_reducible refine Ext.alloc ?_ _ | with_reducible refine Ext.upA (by assumption) ?_ | with_reducible refine Ext.upW ?_ | with_reducible refine Ext.drew ?_ | with_reducible refine Ext.drewN ?_ _ | with_reducible refine Ext.upF ?_ | with_reducible refine Ext.upFF (by first | omega | simp) ?_ | with_reducible refine Ext.setCellsF _ _ _ (by first | omega | simp) ?_ | with_reducible refine Ext.setCellF _ _ _ (by first | omega | simp) ?_ | with_reducible refine Ext.upFN (by first | omega | simp) ?_ | with_reducible refine Ext.up1F (by first | omega | simp) ?_ | with_reducible refine Ext.up1N (by first | omega | simp) ?_ | with_reducible refine Ext.setCell ?_ (.inr (by first | omega | simp)) _ | refine Ext.alloc ?_ _ | refine Ext.setCellF _ _ _ (by first | omega | simp) ?_ | refine Ext.setCell ?_ (.inr (by first | omega | simp)) _))⟩
end Go.Proofs.Ytekbonciafbjiaa

/- Layer 22: Grow of nothing, Concat. -/
namespace Go.Proofs.Ytekbonciafbjiaa
open Go.RowKit Go.Lib F64
set_option linter.unusedSimpArgs false
set_option linter.unusedVariables false
attribute [local go_sem] run_store_float
attribute [local go_sem low] EW.cellN EW.frozN alloc_cell_or alloc_froz_or EW.cellF EW.frozF EW.cell1 EW.froz1
attribute [local go_sem] relAt relUpon
theorem wpList_append_zeros {P : Program} {ops : Array Oper} {rest : List Oper} {o : Oper} {a : Act} {w : World} {Q : Exit → Act → World → Prop} (hgd : o.guard = none) (s x : Operand) (t tn : TypeId)
    (ho : o.op = .call { callee := .builtin .append, args := #[s, x], argTypes := #[t, tn] })
    (e : TypeId) (size bytes : Nat) (z : Value) (kn : IntKind) (ht : P.underlying t = some (.slice e)) (htn : P.underlying tn = some (.int kn)) (hi : (P.info? e).map (fun i => (i.zero, i.size, i.bytes)) = some (some z, size, bytes)) (hzs : z.cells.size = size) (hsz : 0 < size)
    (n : Nat) (h0 : 0 < n) (k : IntKind) (hs : a.eval s = .slice none 0 0) (hx : a.eval x = .int k n) (h63 : n ≤ 9223372036854775807) (h48 : n * bytes ≤ 281474976710656)
    (h : ∀ (cap : Nat) (W : EW Non w), n ≤ cap → cap ≤ 9223372036854775807 → Hid (W.on.ownsRow w.heap.size e size (.slice (some ⟨w.heap.size, 0, none⟩) 0 cap) 0 []) → wpList P ops Q rest (a.put o.dst (.slice (some ⟨w.heap.size, 0, none⟩) n cap)) W.on) : wpList P ops Q (o :: rest) a w := by
  obtain ⟨i, hi0, hi1, hi2, hi3⟩ := info_parts hi
  have hap := run_append_nil_zeros w t tn o.type e i z k kn ht htn hi0 hi1 n h0 (by omega) (by omega) (by rw [hi3]; exact h48)
  have hge := grownCap_ge w n 0 e
  have hle : grownCap w n 0 e ≤ maxLen := grownCap_le_maxLen w n 0 e (by unfold maxLen; omega)
  have hZ : (Builtin.zeroCells z.cells n ++ Builtin.zeroCells z.cells (grownCap w n 0 e - n)).size = grownCap w n 0 e * size := by
    rw [Array.size_append, size_zeroCells, size_zeroCells, hzs, ← Nat.add_mul]; congr 1; omega
  generalize grownCap w n 0 e = cap at *
  refine wpList_append_run w hgd s x t tn ho _ _ hs hx _ _ hap ?_
  exact h cap ⟨_, ((Ext.refl Non w).drew).alloc _⟩ hge (by unfold maxLen at hle; omega) (Go.Lib.hid ⟨by simp, .inr ⟨_, cap, _, rfl, Nat.le_refl _, heap_alloc_new w.drew _, Nat.zero_le _, hle, hZ, by simp⟩⟩)
set_option maxRecDepth 100000 in
theorem grow_nil (n : Nat) (hn : n ≤ 4194304) (w : World) : Calls Try.prog 67 #[.slice none 0 0, .int .i64 n] w fun e w' => ∃ v, e = .returned v ∧ w'.ownsRow w.heap.size 62 7 v 0 [] ∧ Ext Non w w' := by
  by_cases h0 : n = 0
  · subst h0
    go_enter Try.func67, Try.ntmps67
    go_wp2_with fail
    go_ret
    exact ⟨_, rfl, World.ownsRow_nil _ _ _ _, by (repeat (first | with_reducible exact Ext.refl _ _ | assumption | with_reducible refine Ext.upN ?_ | with_reducible refine Ext.alloc ?_ _ | with_reducible refine Ext.upA (by assumption) ?_ | with_reducible refine Ext.upW ?_ | with_reducible refine Ext.drew ?_ | with_reducible refine Ext.drewN ?_ _ | with_reducible refine Ext.upF ?_ | with_reducible refine Ext.upFF (by first | omega | simp) ?_ | with_reducible refine Ext.setCellsF _ _ _ (by first | omega | simp) ?_ | with_reducible refine Ext.setCellF _ _ _ (by first | omega | simp) ?_ | with_reducible refine Ext.upFN (by first | omega | simp) ?_ | with_reducible refine Ext.up1F (by first | omega | simp) ?_ | with_reducible refine Ext.up1N (by first | omega | simp) ?_ | with_reducible refine Ext.setCell ?_ (.inr (by first | omega | simp)) _ | refine Ext.alloc ?_ _ | refine Ext.setCellF _ _ _ (by first | omega | simp) ?_ | refine Ext.setCell ?_ (.inr (by first | omega | simp)) _))⟩
  · have hp : decide ((0 : Int) < (n : Int)) = true := decide_eq_true (by omega)
    have hp2 : decide (0 < n) = true := decide_eq_true (by omega)
    have hnn : decide ((n : Int) < 0) = false := decide_eq_false (by omega)
    have hw : IntKind.i64.wrap (n : Int) = (n : Int) := IntWalk.i64_in _ (by omega)
    go_enter Try.func67, Try.ntmps67
    go_wp2_with (at_builtin; refine wpList_append_zeros rfl _ _ 60 3 rfl 62 7 64 _ .i64 Try.underlying60 rfl info_entry (by rfl) (by omega) n (by omega) .i64 rfl rfl (by omega) (by omega) (fun cap W h1 h2 HO => ?_))
    go_ret
    exact ⟨_, rfl, HO.out, by (repeat (first | with_reducible exact Ext.refl _ _ | assumption | with_reducible refine Ext.upN ?_ | with_reducible refine Ext.alloc ?_ _ | with_reducible refine Ext.upA (by assumption) ?_ | with_reducible refine Ext.upW ?_ | with_reducible refine Ext.drew ?_ | with_reducible refine Ext.drewN ?_ _ | with_reducible refine Ext.upF ?_ | with_reducible refine Ext.upFF (by first | omega | simp) ?_ | with_reducible refine Ext.setCellsF _ _ _ (by first | omega | simp) ?_ | with_reducible refine Ext.setCellF _ _ _ (by first | omega | simp) ?_ | with_reducible refine Ext.upFN (by first | omega | simp) ?_ | with_reducible refine Ext.up1F (by first | omega | simp) ?_ | with_reducible refine Ext.up1N (by first | omega | simp) ?_ | with_reducible refine Ext.setCell ?_ (.inr (by first | omega | simp)) _ | refine Ext.alloc ?_ _ | refine Ext.setCellF _ _ _ (by first | omega | simp) ?_ | refine Ext.setCell ?_ (.inr (by first | omega | simp)) _))⟩
/-- 'append(s, xs...)': the row's block alone is written. -/
theorem wpList_append_listB {P : Program} {ops : Array Oper} {rest : List Oper} {o : Oper} {a : Act} {w : World} {Q : Exit → Act → World → Prop} (hgd : o.guard = none) (s x : Operand) (t : TypeId)
    (ho : o.op = .call { callee := .builtin .append, args := #[s, x], argTypes := #[t, t] })
    (base : Nat) (e : TypeId) (size bytes : Nat) (z : Value) (ht : P.underlying t = some (.slice e)) (hi : (P.info? e).map (fun i => (i.zero, i.size, i.bytes)) = some (some z, size, bytes)) (hzs : z.cells.size = size) (hsz : 0 < size)
    (v : Value) (n : Nat) (xs : List Value) (hs : a.eval s = v) (hown : w.ownsRow base e size v n xs)
    (ia : Option Addr) (m c : Nat) (news : List Value) (hx : a.eval x = .slice ia m c) (hnone : ia = none → m = 0 ∧ c = 0) (hnews : ∀ ad, ia = some ad → ∀ j u, news[j]? = some u → w.cell? (ad.add j) = some u) (hl : news.length = m * size) (h1 : ∀ u ∈ news, u.oneCell' = true)
    (hn : (n + m) * bytes ≤ 140737488355328) (hn2 : n + m ≤ 9223372036854775807) (hbase : base ≤ w.heap.size)
    (h : ∀ (v' : Value) (W : EW (Row v) w), W.on.ownsRow base e size v' (n + m) (xs ++ news) → (∀ k, Row v' k → Row v k ∨ w.heap.size ≤ k) → wpList P ops Q rest (a.put o.dst v') W.on) : wpList P ops Q (o :: rest) a w := by
  obtain ⟨i, hi0, hi1, hi2, hi3⟩ := info_parts hi
  cases ia with
  | none =>
    obtain ⟨rfl, rfl⟩ := hnone rfl
    have hnn : news = [] := List.eq_nil_of_length_eq_zero (by omega)
    subst hnn
    refine wpList_append_own_none hgd s x t ho base e i size ht hi0 v n xs hs hown hx ?_
    exact h v ⟨w, Ext.refl _ _⟩ (by rw [List.append_nil]; exact hown) (fun k hk => .inl hk)
  | some ad =>
    refine wpList_append_own_at w hgd s x t ho base e i z size bytes ht hi0 hi1 hi2 hi3 hzs hsz v n xs hs hown ad m c news hx hl (hnews ad rfl) h1 (by unfold maxLen; omega) hn hbase ?_
    intro v' w' ho' hg _ hv
    refine h v' ⟨w', Ext.ofGrown hg fun q hq => .inl hq⟩ ho' (fun k hk => ?_)
    unfold Row at *
    rcases hv with hv | hv
    · left; rw [← hv]; exact hk
    · right; rw [hv] at hk; injection hk with hk; omega
theorem flat_len7 (l : List En) : (l.flatMap En.cells).length = l.length * 7 := by
  induction l with
  | nil => rfl
  | cons x t ih => rw [List.flatMap_cons, List.length_append, ih, List.length_cons]; show 7 + _ = _; omega
theorem en_one (l : List En) : ∀ u ∈ l.flatMap En.cells, u.oneCell' = true := fun u hu => by
  obtain ⟨x, -, h⟩ := List.mem_flatMap.1 hu
  simp [En.cells, Req.cells] at h
  rcases h with rfl | rfl | rfl | rfl | rfl | rfl | rfl <;> rfl
theorem ens_news {w : World} {a : Option Addr} {cap : Nat} {l : List En} (h : Ens w a cap l) : ∀ ad, a = some ad → ∀ j u, (l.flatMap En.cells)[j]? = some u → w.cell? (ad.add j) = some u := fun ad e j u hu => by
  have hj : j < l.length * 7 := by rw [← flat_len7]; exact (List.getElem?_eq_some_iff.1 hu).1
  have hd : j / 7 < l.length := by omega
  obtain ⟨b, o, e2, -, hc⟩ := h.at_ (j / 7) hd
  rw [e] at e2; injection e2 with e2; subst e2
  have q := flatA_get En.cells 7 (fun _ => rfl) l (j / 7) (j % 7) hd (Nat.mod_lt _ (by omega))
  rw [show j / 7 * 7 + j % 7 = j by omega, hu] at q
  have := hc (j % 7) u q.symm
  rw [show (⟨b, o, none⟩ : Addr).add j = ⟨b, o + j / 7 * 7 + j % 7, none⟩ by rw [addr_add]; congr 1; omega]
  exact this
/-- All entries of rows. -/
def allE (rs : List EnR) : List En := rs.flatMap (·.2.2)
theorem allE_take {rs : List EnR} {i : Nat} (h : i < rs.length) : allE (rs.take (i + 1)) = allE (rs.take i) ++ (rs[i]).2.2 := by
  unfold allE
  rw [List.take_succ_eq_append_getElem h, List.flatMap_append, List.flatMap_cons, List.flatMap_nil, List.append_nil]
theorem allE_le (rs : List EnR) (i : Nat) : (allE (rs.take i)).length ≤ (allE rs).length := by
  unfold allE
  rw [← List.take_append_drop i rs, List.flatMap_append, List.length_append]
  simp
set_option maxHeartbeats 2000000 in
set_option maxRecDepth 100000 in
theorem slices_Concat (a : Option Addr) (cap : Nat) (rs : List EnR) (hlim : (allE rs).length ≤ 2097152) (w : World) (h : EEs w a cap rs) : Calls Try.prog 41 #[.slice a rs.length cap] w fun e w' =>
    ∃ v, e = .returned v ∧ w'.ownsRow w.heap.size 62 7 v (allE rs).length ((allE rs).flatMap En.cells) ∧ Ext Non w w' := by
  have HA := Go.Lib.hid h
  have s1 := h.small; have s2 := h.le
  clear h
  have HT : Hid (∀ i, i < rs.length → (allE (rs.take (i + 1))).length = (allE (rs.take i)).length + (rs[i]!).2.2.length ∧ (allE (rs.take (i + 1))).length ≤ 2097152) := Go.Lib.hid (fun i hi => ⟨by rw [allE_take hi, List.length_append, getElem!_pos rs i hi], by have := allE_le rs (i + 1); omega⟩)
  go_enter Try.func41, Try.ntmps41
  go_wp2_with fail
  go_loopg [3, 5, 11] rs.length (fun n tv ev iv wr => ∃ (t i : Nat) (z : EW Non w), i ≤ rs.length ∧ n = rs.length - i ∧ tv = .int .i64 t ∧ iv = .int .i64 i ∧ wr = z.on ∧ Hid (t = (allE (rs.take i)).length))
  case atStart => exact ⟨0, 0, ⟨_, by (repeat (first | with_reducible exact Ext.refl _ _ | assumption | with_reducible refine Ext.upN ?_ | with_reducible refine Ext.alloc ?_ _ | with_reducible refine Ext.upA (by assumption) ?_ | with_reducible refine Ext.upW ?_ | with_reducible refine Ext.drew ?_ | with_reducible refine Ext.drewN ?_ _ | with_reducible refine Ext.upF ?_ | with_reducible refine Ext.upFF (by first | omega | simp) ?_ | with_reducible refine Ext.setCellsF _ _ _ (by first | omega | simp) ?_ | with_reducible refine Ext.setCellF _ _ _ (by first | omega | simp) ?_ | with_reducible refine Ext.upFN (by first | omega | simp) ?_ | with_reducible refine Ext.up1F (by first | omega | simp) ?_ | with_reducible refine Ext.up1N (by first | omega | simp) ?_ | with_reducible refine Ext.setCell ?_ (.inr (by first | omega | simp)) _ | refine Ext.alloc ?_ _ | refine Ext.setCellF _ _ _ (by first | omega | simp) ?_ | refine Ext.setCell ?_ (.inr (by first | omega | simp)) _))⟩, Nat.zero_le _, rfl, rfl, rfl, rfl, Go.Lib.hid rfl⟩
  case round =>
    obtain ⟨t, i, z, hi, hn, rfl, rfl, rfl, HM⟩ := hrel
    have HN := Go.Lib.hid hn; clear hn
    by_cases hlt : i < rs.length
    · obtain ⟨ab, ao, rfl, hab, hc, -⟩ := HA.out.at_ i hlt
      have h2 := HT.out i hlt
      rw [getElem!_pos rs i hlt, ← HM.out] at h2
      have HQ := Go.Lib.hid h2.1
      have hb : t + (rs[i]).2.2.length ≤ 2097152 := by omega
      clear h2
      generalize (rs[i]).2.2.length = m at *
      generalize (rs[i]).1 = ia at *
      generalize (rs[i]).2.1 = ic at *
      have hw : IntKind.i64.wrap ((t : Int) + (m : Int)) = ((t + m : Nat) : Int) := (IntWalk.i64_in _ (by omega)).trans (by omega)
      have hd : decide (((t + m : Nat) : Int) < 0) = false := decide_eq_false (by omega)
      generalize hk : t + m = k at *
      have HK := Go.Lib.hid hk; clear hk
      go_wp2_with fail
      go_roundg (rs.length - (i + 1))
      case measure => have := HN.out; omega
      case rel => exact ⟨k, i + 1, ⟨_, by (repeat (first | with_reducible exact Ext.refl _ _ | assumption | with_reducible refine Ext.upN ?_ | with_reducible refine Ext.alloc ?_ _ | with_reducible refine Ext.upA (by assumption) ?_ | with_reducible refine Ext.upW ?_ | with_reducible refine Ext.drew ?_ | with_reducible refine Ext.drewN ?_ _ | with_reducible refine Ext.upF ?_ | with_reducible refine Ext.upFF (by first | omega | simp) ?_ | with_reducible refine Ext.setCellsF _ _ _ (by first | omega | simp) ?_ | with_reducible refine Ext.setCellF _ _ _ (by first | omega | simp) ?_ | with_reducible refine Ext.upFN (by first | omega | simp) ?_ | with_reducible refine Ext.up1F (by first | omega | simp) ?_ | with_reducible refine Ext.up1N (by first | omega | simp) ?_ | with_reducible refine Ext.setCell ?_ (.inr (by first | omega | simp)) _ | refine Ext.alloc ?_ _ | refine Ext.setCellF _ _ _ (by first | omega | simp) ?_ | refine Ext.setCell ?_ (.inr (by first | omega | simp)) _))⟩, hlt, rfl, rfl, by go_num, rfl, Go.Lib.hid HQ.out.symm⟩
    · obtain rfl : i = rs.length := by omega
      have hm := HM.out
      rw [List.take_length] at hm
      have ht : t ≤ 2097152 := by omega
      have HM2 := Go.Lib.hid hm
      clear hm
      go_wp2_with fail
      refine (grow_nil t (by omega) _).mono ?_
      rintro e _ ⟨v0, rfl, hO, hx⟩
      obtain ⟨x1, rfl⟩ := hx.ew
      have ROW0 : Hid (x1.on.ownsRow w.heap.size 62 7 v0 (allE (rs.take 0)).length ((allE (rs.take 0)).flatMap En.cells)) := Go.Lib.hid (ownR_base hO z.ext.size)
      clear hO hx
      go_wp2_with fail
      go_loopg [6, 8, 27] rs.length (fun n ov ev iv wr => ∃ (v : Value) (i : Nat) (u : EW Non w), v = ov ∧ i ≤ rs.length ∧ n = rs.length - i ∧ iv = .int .i64 i ∧ wr = u.on ∧ Hid (wr.ownsRow w.heap.size 62 7 v (allE (rs.take i)).length ((allE (rs.take i)).flatMap En.cells)))
      case atStart => exact ⟨_, 0, ⟨_, by (repeat (first | with_reducible exact Ext.refl _ _ | assumption | with_reducible refine Ext.upN ?_ | with_reducible refine Ext.alloc ?_ _ | with_reducible refine Ext.upA (by assumption) ?_ | with_reducible refine Ext.upW ?_ | with_reducible refine Ext.drew ?_ | with_reducible refine Ext.drewN ?_ _ | with_reducible refine Ext.upF ?_ | with_reducible refine Ext.upFF (by first | omega | simp) ?_ | with_reducible refine Ext.setCellsF _ _ _ (by first | omega | simp) ?_ | with_reducible refine Ext.setCellF _ _ _ (by first | omega | simp) ?_ | with_reducible refine Ext.upFN (by first | omega | simp) ?_ | with_reducible refine Ext.up1F (by first | omega | simp) ?_ | with_reducible refine Ext.up1N (by first | omega | simp) ?_ | with_reducible refine Ext.setCell ?_ (.inr (by first | omega | simp)) _ | refine Ext.alloc ?_ _ | refine Ext.setCellF _ _ _ (by first | omega | simp) ?_ | refine Ext.setCell ?_ (.inr (by first | omega | simp)) _))⟩, rfl, Nat.zero_le _, rfl, rfl, rfl, ROW0⟩
      case round =>
        clear ROW0
        obtain ⟨v, j, u, rfl, hj, hjn, rfl, rfl, HO⟩ := hrel
        have HJ := Go.Lib.hid hjn; clear hjn
        by_cases hjl : j < rs.length
        · obtain ⟨ab, ao, rfl, hab, hc, hE⟩ := HA.out.at_ j hjl
          have h2 := HT.out j hjl
          rw [getElem!_pos rs j hjl] at h2
          have hb : (allE (rs.take j)).length + (rs[j]).2.2.length ≤ 2097152 := by omega
          have HQ := Go.Lib.hid h2.1
          have HF : Hid ((allE (rs.take (j + 1))).flatMap En.cells = (allE (rs.take j)).flatMap En.cells ++ (rs[j]).2.2.flatMap En.cells) := Go.Lib.hid (by rw [allE_take hjl, List.flatMap_append])
          clear h2
          have hnn := hE.none_
          have hle := hE.le
          have HN2 := Go.Lib.hid (ens_news (hE.extN (by (repeat (first | with_reducible exact Ext.refl _ _ | assumption | with_reducible refine Ext.upN ?_ | with_reducible refine Ext.alloc ?_ _ | with_reducible refine Ext.upA (by assumption) ?_ | with_reducible refine Ext.upW ?_ | with_reducible refine Ext.drew ?_ | with_reducible refine Ext.drewN ?_ _ | with_reducible refine Ext.upF ?_ | with_reducible refine Ext.upFF (by first | omega | simp) ?_ | with_reducible refine Ext.setCellsF _ _ _ (by first | omega | simp) ?_ | with_reducible refine Ext.setCellF _ _ _ (by first | omega | simp) ?_ | with_reducible refine Ext.upFN (by first | omega | simp) ?_ | with_reducible refine Ext.up1F (by first | omega | simp) ?_ | with_reducible refine Ext.up1N (by first | omega | simp) ?_ | with_reducible refine Ext.setCell ?_ (.inr (by first | omega | simp)) _ | refine Ext.alloc ?_ _ | refine Ext.setCellF _ _ _ (by first | omega | simp) ?_ | refine Ext.setCell ?_ (.inr (by first | omega | simp)) _)) : Ext Non w u.on)))
          clear hE
          have hl7 := flat_len7 (rs[j]).2.2
          have hon := en_one (rs[j]).2.2
          generalize (rs[j]).2.2.flatMap En.cells = news at *
          generalize (rs[j]).2.2.length = m at *
          generalize (rs[j]).1 = ia at *
          generalize (rs[j]).2.1 = ic at *
          have hnn2 : ia = none → m = 0 ∧ ic = 0 := fun e => by have := hnn e; omega
          have HL7 := Go.Lib.hid hl7; have HON := Go.Lib.hid hon; have HNN := Go.Lib.hid hnn2
          clear hl7 hon hnn hnn2
          have hzz : w.heap.size ≤ u.on.heap.size := u.ext.size
          go_wp2_with (at_builtin; refine wpList_append_listB rfl _ _ 60 rfl w.heap.size 62 7 64 _ Try.underlying60 info_entry (by rfl) (by omega) v _ _ rfl HO.out ia m ic news rfl HNN.out HN2.out HL7.out HON.out (by omega) (by omega) hzz (fun v' W2 hO hrow => ?_); have HO2 := Go.Lib.hid hO; clear hO hrow)
          have XF : Ext Non w W2.on := u.ext.step W2.ext (fun k hk h => by have := (own_row HO.out k h).1; omega)
          go_roundg (rs.length - (j + 1))
          case measure => have := HJ.out; omega
          case rel => exact ⟨_, j + 1, ⟨_, XF⟩, rfl, hjl, rfl, by go_num, rfl, Go.Lib.hid (by rw [HF.out, HQ.out]; exact HO2.out)⟩
        · obtain rfl : j = rs.length := by omega
          have ho := HO.out
          rw [List.take_length] at ho
          have HO3 := Go.Lib.hid ho
          clear ho
          go_wp2
          go_ret
          exact ⟨_, rfl, HO3.out, by (repeat (first | with_reducible exact Ext.refl _ _ | assumption | with_reducible refine Ext.upN ?_ | with_reducible refine Ext.alloc ?_ _ | with_reducible refine Ext.upA (by assumption) ?_ | with_reducible refine Ext.upW ?_ | with_reducible refine Ext.drew ?_ | with_reducible refine Ext.drewN ?_ _ | with_reducible refine Ext.upF ?_ | with_reducible refine Ext.upFF (by first | omega | simp) ?_ | with_reducible refine Ext.setCellsF _ _ _ (by first | omega | simp) ?_ | with_reducible refine Ext.setCellF _ _ _ (by first | omega | simp) ?_ | with_reducible refine Ext.upFN (by first | omega | simp) ?_ | with_reducible refine Ext.up1F (by first | omega | simp) ?_ | with_reducible refine Ext.up1N (by first | omega | simp) ?_ | with_reducible refine Ext.setCell ?_ (.inr (by first | omega | simp)) _ | refine Ext.alloc ?_ _ | refine Ext.setCellF _ _ _ (by first | omega | simp) ?_ | refine Ext.setCell ?_ (.inr (by first | omega | simp)) _))⟩
end Go.Proofs.Ytekbonciafbjiaa

/- Layer 22: check. -/
namespace Go.Proofs.Ytekbonciafbjiaa
open Go.RowKit Go.Lib F64
set_option linter.unusedSimpArgs false
set_option linter.unusedVariables false
attribute [local go_sem] run_store_float
attribute [local go_sem low] EW.cellN EW.frozN alloc_cell_or alloc_froz_or EW.cellF EW.frozF EW.cell1 EW.froz1
attribute [local go_sem] relAt relUpon
theorem info_entry7 : (Try.prog.info? 62).map (·.size) = some 7 := by kernel_rfl
theorem asked_take {l : List En} {i : Nat} (h : i < l.length) : askedE_ (l.take (i + 1)) = (askedE_ (l.take i) && askedB (l[i]).req) := by
  unfold askedE_
  rw [List.take_succ_eq_append_getElem h, List.all_append]; simp
theorem slots_take {l : List En} {i : Nat} (h : i < l.length) : slotsE_ (l.take (i + 1)) = (slotsE_ (l.take i) && (decide (1 ≤ (l[i]).slot) && decide ((l[i]).slot ≤ 244))) := by
  unfold slotsE_
  rw [List.take_succ_eq_append_getElem h, List.all_append]; simp
set_option maxHeartbeats 2000000 in
set_option maxRecDepth 100000 in
theorem saga_check (a : Option Addr) (cap : Nat) (l : List En) (hok : ∀ x ∈ l, x.ok) (w : World) (h : Ens w a cap l) : Calls Try.prog 42 #[.slice a l.length cap] w fun e w' =>
    e = .returned (.int .i64 (chkE l)) ∧ Ext Non w w' := by
  have HA := Go.Lib.hid h; have HK := Go.Lib.hid hok
  have s1 := h.small; have s2 := h.le
  clear h hok
  go_enter Try.func42, Try.ntmps42
  go_wp2_with fail
  go_loopg [9] l.length (fun n iv wr => ∃ (i : Nat) (z : EW Non w), i ≤ l.length ∧ n = l.length - i ∧ iv = .int .i64 i ∧ wr = z.on ∧ Hid (askedE_ (l.take i) = true))
  case atStart => exact ⟨0, ⟨_, by (repeat (first | with_reducible exact Ext.refl _ _ | assumption | with_reducible refine Ext.upN ?_ | with_reducible refine Ext.alloc ?_ _ | with_reducible refine Ext.upA (by assumption) ?_ | with_reducible refine Ext.upW ?_ | with_reducible refine Ext.drew ?_ | with_reducible refine Ext.drewN ?_ _ | with_reducible refine Ext.upF ?_ | with_reducible refine Ext.upFF (by first | omega | simp) ?_ | with_reducible refine Ext.setCellsF _ _ _ (by first | omega | simp) ?_ | with_reducible refine Ext.setCellF _ _ _ (by first | omega | simp) ?_ | with_reducible refine Ext.upFN (by first | omega | simp) ?_ | with_reducible refine Ext.up1F (by first | omega | simp) ?_ | with_reducible refine Ext.up1N (by first | omega | simp) ?_ | with_reducible refine Ext.setCell ?_ (.inr (by first | omega | simp)) _ | refine Ext.alloc ?_ _ | refine Ext.setCellF _ _ _ (by first | omega | simp) ?_ | refine Ext.setCell ?_ (.inr (by first | omega | simp)) _))⟩, Nat.zero_le _, rfl, rfl, rfl, Go.Lib.hid rfl⟩
  case round =>
    obtain ⟨i, z, hi, hn, rfl, rfl, HD⟩ := hrel
    have HN := Go.Lib.hid hn; clear hn
    by_cases hlt : i < l.length
    · obtain ⟨ab, ao, rfl, hab, hc⟩ := HA.out.at_ i hlt
      have HT := Go.Lib.hid (asked_take hlt)
      have HR := Go.Lib.hid (HK.out _ (List.getElem_mem hlt)).2
      have HB : Hid (askedB (l[i]).req = false → chkE l = 1) := Go.Lib.hid (fun e => by
        unfold chkE
        rw [if_neg]
        unfold askedE_
        rw [Bool.not_eq_true, List.all_eq_false]
        exact ⟨l[i], List.getElem_mem hlt, by rw [e]; simp⟩)
      generalize l[i] = o at *
      obtain ⟨sl, ⟨c, st, ⟨k, key, x, id⟩⟩⟩ := o
      have q0 : w.cell? ⟨ab, ao + i * 7, none⟩ = some (.int .i64 sl) := hc 0 _ rfl
      have q1 : w.cell? ⟨ab, ao + i * 7 + 1, none⟩ = some (.int .i64 c) := hc 1 _ rfl
      have q2 : w.cell? ⟨ab, ao + i * 7 + 2, none⟩ = some (.int .i64 st) := hc 2 _ rfl
      have q3 : w.cell? ⟨ab, ao + i * 7 + 3, none⟩ = some (.int .i64 k) := hc 3 _ rfl
      have q4 : w.cell? ⟨ab, ao + i * 7 + 4, none⟩ = some (.string key) := hc 4 _ rfl
      have q5 : w.cell? ⟨ab, ao + i * 7 + 5, none⟩ = some (.float .f64 x) := hc 5 _ rfl
      have q6 : w.cell? ⟨ab, ao + i * 7 + 6, none⟩ = some (.int .i64 id) := hc 6 _ rfl
      clear hc
      go_upto_region 4 with (refine wpList_store_box rfl 62 _ _ rfl z.on.heap.size _ [.int .i64 sl, .int .i64 c, .int .i64 st, .int .i64 k, .string key, .float .f64 x, .int .i64 id] _ rfl rfl (Bx.newAt _ _ _ _ rfl) rfl info_entry7 (by simp [Value.oneCell']) (fun W hB => ?_); have BX := Go.Lib.hid hB; clear hB)
      have XW : Ext Non z.on W.on := by (repeat (first | with_reducible exact Ext.refl _ _ | assumption | with_reducible refine Ext.upN ?_ | with_reducible refine Ext.alloc ?_ _ | with_reducible refine Ext.upA (by assumption) ?_ | with_reducible refine Ext.upW ?_ | with_reducible refine Ext.drew ?_ | with_reducible refine Ext.drewN ?_ _ | with_reducible refine Ext.upF ?_ | with_reducible refine Ext.upFF (by first | omega | simp) ?_ | with_reducible refine Ext.setCellsF _ _ _ (by first | omega | simp) ?_ | with_reducible refine Ext.setCellF _ _ _ (by first | omega | simp) ?_ | with_reducible refine Ext.upFN (by first | omega | simp) ?_ | with_reducible refine Ext.up1F (by first | omega | simp) ?_ | with_reducible refine Ext.up1N (by first | omega | simp) ?_ | with_reducible refine Ext.setCell ?_ (.inr (by first | omega | simp)) _ | refine Ext.alloc ?_ _ | refine Ext.setCellF _ _ _ (by first | omega | simp) ?_ | refine Ext.setCell ?_ (.inr (by first | omega | simp)) _))
      obtain ⟨x5, hx5⟩ := (z.ext.trans XW).ew
      rw [hx5] at BX ⊢
      clear hx5 XW W q0 q1 q2 q3 q4 q5 q6
      try simp only [Act.put]
      generalize z.on.heap.size = kx at *
      have y1 : x5.on.cell? ⟨kx, 1, none⟩ = some (.int .i64 c) := BX.out.cell rfl
      have y2 : x5.on.cell? ⟨kx, 2, none⟩ = some (.int .i64 st) := BX.out.cell rfl
      have y3 : x5.on.cell? ⟨kx, 3, none⟩ = some (.int .i64 k) := BX.out.cell rfl
      have y4 : x5.on.cell? ⟨kx, 4, none⟩ = some (.string key) := BX.out.cell rfl
      have y5 : x5.on.cell? ⟨kx, 5, none⟩ = some (.float .f64 x) := BX.out.cell rfl
      have y6 : x5.on.cell? ⟨kx, 6, none⟩ = some (.int .i64 id) := BX.out.cell rfl
      go_wp2_with fail
      refine Calls.ew (saga_asked c st k key x id HR.out _) ?_
      rintro e x1 rfl
      clear y1 y2 y3 y4 y5 y6
      cases hs : askedB ⟨c, st, ⟨k, key, x, id⟩⟩
      · have HF := Go.Lib.hid (HB.out hs)
        clear hs
        go_wp2
        go_ret
        exact ⟨by rw [HF.out]; rfl, by (repeat (first | with_reducible exact Ext.refl _ _ | assumption | with_reducible refine Ext.upN ?_ | with_reducible refine Ext.alloc ?_ _ | with_reducible refine Ext.upA (by assumption) ?_ | with_reducible refine Ext.upW ?_ | with_reducible refine Ext.drew ?_ | with_reducible refine Ext.drewN ?_ _ | with_reducible refine Ext.upF ?_ | with_reducible refine Ext.upFF (by first | omega | simp) ?_ | with_reducible refine Ext.setCellsF _ _ _ (by first | omega | simp) ?_ | with_reducible refine Ext.setCellF _ _ _ (by first | omega | simp) ?_ | with_reducible refine Ext.upFN (by first | omega | simp) ?_ | with_reducible refine Ext.up1F (by first | omega | simp) ?_ | with_reducible refine Ext.up1N (by first | omega | simp) ?_ | with_reducible refine Ext.setCell ?_ (.inr (by first | omega | simp)) _ | refine Ext.alloc ?_ _ | refine Ext.setCellF _ _ _ (by first | omega | simp) ?_ | refine Ext.setCell ?_ (.inr (by first | omega | simp)) _))⟩
      · have HF : Hid (askedE_ (l.take (i + 1)) = true) := Go.Lib.hid (by rw [HT.out, HD.out, hs]; rfl)
        clear hs
        go_wp2_with fail
        go_roundg (l.length - (i + 1))
        case measure => have := HN.out; omega
        case rel => exact ⟨i + 1, ⟨_, by (repeat (first | with_reducible exact Ext.refl _ _ | assumption | with_reducible refine Ext.upN ?_ | with_reducible refine Ext.alloc ?_ _ | with_reducible refine Ext.upA (by assumption) ?_ | with_reducible refine Ext.upW ?_ | with_reducible refine Ext.drew ?_ | with_reducible refine Ext.drewN ?_ _ | with_reducible refine Ext.upF ?_ | with_reducible refine Ext.upFF (by first | omega | simp) ?_ | with_reducible refine Ext.setCellsF _ _ _ (by first | omega | simp) ?_ | with_reducible refine Ext.setCellF _ _ _ (by first | omega | simp) ?_ | with_reducible refine Ext.upFN (by first | omega | simp) ?_ | with_reducible refine Ext.up1F (by first | omega | simp) ?_ | with_reducible refine Ext.up1N (by first | omega | simp) ?_ | with_reducible refine Ext.setCell ?_ (.inr (by first | omega | simp)) _ | refine Ext.alloc ?_ _ | refine Ext.setCellF _ _ _ (by first | omega | simp) ?_ | refine Ext.setCell ?_ (.inr (by first | omega | simp)) _))⟩, hlt, rfl, by go_num, rfl, HF⟩
    · obtain rfl : i = l.length := by omega
      have hd := HD.out
      rw [List.take_length] at hd
      have HF := Go.Lib.hid hd
      clear hd HN HD
      go_wp2_with fail
      go_loopg [20] l.length (fun n iv wr => ∃ (i : Nat) (z : EW Non w), i ≤ l.length ∧ n = l.length - i ∧ iv = .int .i64 i ∧ wr = z.on ∧ Hid (slotsE_ (l.take i) = true))
      case atStart => exact ⟨0, ⟨_, by (repeat (first | with_reducible exact Ext.refl _ _ | assumption | with_reducible refine Ext.upN ?_ | with_reducible refine Ext.alloc ?_ _ | with_reducible refine Ext.upA (by assumption) ?_ | with_reducible refine Ext.upW ?_ | with_reducible refine Ext.drew ?_ | with_reducible refine Ext.drewN ?_ _ | with_reducible refine Ext.upF ?_ | with_reducible refine Ext.upFF (by first | omega | simp) ?_ | with_reducible refine Ext.setCellsF _ _ _ (by first | omega | simp) ?_ | with_reducible refine Ext.setCellF _ _ _ (by first | omega | simp) ?_ | with_reducible refine Ext.upFN (by first | omega | simp) ?_ | with_reducible refine Ext.up1F (by first | omega | simp) ?_ | with_reducible refine Ext.up1N (by first | omega | simp) ?_ | with_reducible refine Ext.setCell ?_ (.inr (by first | omega | simp)) _ | refine Ext.alloc ?_ _ | refine Ext.setCellF _ _ _ (by first | omega | simp) ?_ | refine Ext.setCell ?_ (.inr (by first | omega | simp)) _))⟩, Nat.zero_le _, rfl, rfl, rfl, Go.Lib.hid rfl⟩
      case round =>
        obtain ⟨i, u, hi, hn, rfl, rfl, HD⟩ := hrel
        have HN := Go.Lib.hid hn; clear hn
        by_cases hlt : i < l.length
        · obtain ⟨ab, ao, rfl, hab, hc⟩ := HA.out.at_ i hlt
          have HT := Go.Lib.hid (slots_take hlt)
          have HB : Hid (¬ (1 ≤ (l[i]).slot ∧ (l[i]).slot ≤ 244) → chkE l = 14) := Go.Lib.hid (fun e => by
            unfold chkE
            rw [if_pos HF.out, if_neg]
            unfold slotsE_
            rw [Bool.not_eq_true, List.all_eq_false]
            refine ⟨l[i], List.getElem_mem hlt, ?_⟩
            simp only [Bool.and_eq_true, decide_eq_true_eq]; exact e)
          generalize l[i] = o at *
          obtain ⟨sl, ⟨c, st, ⟨k, key, x, id⟩⟩⟩ := o
          have q0 : w.cell? ⟨ab, ao + i * 7, none⟩ = some (.int .i64 sl) := hc 0 _ rfl
          have q1 : w.cell? ⟨ab, ao + i * 7 + 1, none⟩ = some (.int .i64 c) := hc 1 _ rfl
          have q2 : w.cell? ⟨ab, ao + i * 7 + 2, none⟩ = some (.int .i64 st) := hc 2 _ rfl
          have q3 : w.cell? ⟨ab, ao + i * 7 + 3, none⟩ = some (.int .i64 k) := hc 3 _ rfl
          have q4 : w.cell? ⟨ab, ao + i * 7 + 4, none⟩ = some (.string key) := hc 4 _ rfl
          have q5 : w.cell? ⟨ab, ao + i * 7 + 5, none⟩ = some (.float .f64 x) := hc 5 _ rfl
          have q6 : w.cell? ⟨ab, ao + i * 7 + 6, none⟩ = some (.int .i64 id) := hc 6 _ rfl
          clear hc
          go_upto_region 10 with (refine wpList_store_box rfl 62 _ _ rfl u.on.heap.size _ [.int .i64 sl, .int .i64 c, .int .i64 st, .int .i64 k, .string key, .float .f64 x, .int .i64 id] _ rfl rfl (Bx.newAt _ _ _ _ rfl) rfl info_entry7 (by simp [Value.oneCell']) (fun W hB => ?_); have BX := Go.Lib.hid hB; clear hB)
          have XW : Ext Non u.on W.on := by (repeat (first | with_reducible exact Ext.refl _ _ | assumption | with_reducible refine Ext.upN ?_ | with_reducible refine Ext.alloc ?_ _ | with_reducible refine Ext.upA (by assumption) ?_ | with_reducible refine Ext.upW ?_ | with_reducible refine Ext.drew ?_ | with_reducible refine Ext.drewN ?_ _ | with_reducible refine Ext.upF ?_ | with_reducible refine Ext.upFF (by first | omega | simp) ?_ | with_reducible refine Ext.setCellsF _ _ _ (by first | omega | simp) ?_ | with_reducible refine Ext.setCellF _ _ _ (by first | omega | simp) ?_ | with_reducible refine Ext.upFN (by first | omega | simp) ?_ | with_reducible refine Ext.up1F (by first | omega | simp) ?_ | with_reducible refine Ext.up1N (by first | omega | simp) ?_ | with_reducible refine Ext.setCell ?_ (.inr (by first | omega | simp)) _ | refine Ext.alloc ?_ _ | refine Ext.setCellF _ _ _ (by first | omega | simp) ?_ | refine Ext.setCell ?_ (.inr (by first | omega | simp)) _))
          obtain ⟨x5, hx5⟩ := (u.ext.trans XW).ew
          rw [hx5] at BX ⊢
          clear hx5 XW W q0 q1 q2 q3 q4 q5 q6
          try simp only [Act.put]
          generalize u.on.heap.size = kx at *
          have y0 : x5.on.cell? ⟨kx, 0, none⟩ = some (.int .i64 sl) := BX.out.cell rfl
          by_cases hl1 : sl < 1
          · have d1 : decide (sl < 1) = true := decide_eq_true hl1
            have HF2 := Go.Lib.hid (HB.out (by simp only; omega))
            go_wp2
            go_ret
            exact ⟨by rw [HF2.out]; rfl, by (repeat (first | with_reducible exact Ext.refl _ _ | assumption | with_reducible refine Ext.upN ?_ | with_reducible refine Ext.alloc ?_ _ | with_reducible refine Ext.upA (by assumption) ?_ | with_reducible refine Ext.upW ?_ | with_reducible refine Ext.drew ?_ | with_reducible refine Ext.drewN ?_ _ | with_reducible refine Ext.upF ?_ | with_reducible refine Ext.upFF (by first | omega | simp) ?_ | with_reducible refine Ext.setCellsF _ _ _ (by first | omega | simp) ?_ | with_reducible refine Ext.setCellF _ _ _ (by first | omega | simp) ?_ | with_reducible refine Ext.upFN (by first | omega | simp) ?_ | with_reducible refine Ext.up1F (by first | omega | simp) ?_ | with_reducible refine Ext.up1N (by first | omega | simp) ?_ | with_reducible refine Ext.setCell ?_ (.inr (by first | omega | simp)) _ | refine Ext.alloc ?_ _ | refine Ext.setCellF _ _ _ (by first | omega | simp) ?_ | refine Ext.setCell ?_ (.inr (by first | omega | simp)) _))⟩
          · have d1 : decide (sl < 1) = false := decide_eq_false hl1
            by_cases hl2 : 244 < sl
            · have d2 : decide (244 < sl) = true := decide_eq_true hl2
              have HF2 := Go.Lib.hid (HB.out (by simp only; omega))
              go_wp2
              go_ret
              exact ⟨by rw [HF2.out]; rfl, by (repeat (first | with_reducible exact Ext.refl _ _ | assumption | with_reducible refine Ext.upN ?_ | with_reducible refine Ext.alloc ?_ _ | with_reducible refine Ext.upA (by assumption) ?_ | with_reducible refine Ext.upW ?_ | with_reducible refine Ext.drew ?_ | with_reducible refine Ext.drewN ?_ _ | with_reducible refine Ext.upF ?_ | with_reducible refine Ext.upFF (by first | omega | simp) ?_ | with_reducible refine Ext.setCellsF _ _ _ (by first | omega | simp) ?_ | with_reducible refine Ext.setCellF _ _ _ (by first | omega | simp) ?_ | with_reducible refine Ext.upFN (by first | omega | simp) ?_ | with_reducible refine Ext.up1F (by first | omega | simp) ?_ | with_reducible refine Ext.up1N (by first | omega | simp) ?_ | with_reducible refine Ext.setCell ?_ (.inr (by first | omega | simp)) _ | refine Ext.alloc ?_ _ | refine Ext.setCellF _ _ _ (by first | omega | simp) ?_ | refine Ext.setCell ?_ (.inr (by first | omega | simp)) _))⟩
            · have d2 : decide (244 < sl) = false := decide_eq_false hl2
              have HF2 : Hid (slotsE_ (l.take (i + 1)) = true) := Go.Lib.hid (by rw [HT.out, HD.out]; simp; omega)
              go_wp2_with fail
              go_roundg (l.length - (i + 1))
              case measure => have := HN.out; omega
              case rel => exact ⟨i + 1, ⟨_, by (repeat (first | with_reducible exact Ext.refl _ _ | assumption | with_reducible refine Ext.upN ?_ | with_reducible refine Ext.alloc ?_ _ | with_reducible refine Ext.upA (by assumption) ?_ | with_reducible refine Ext.upW ?_ | with_reducible refine Ext.drew ?_ | with_reducible refine Ext.drewN ?_ _ | with_reducible refine Ext.upF ?_ | with_reducible refine Ext.upFF (by first | omega | simp) ?_ | with_reducible refine Ext.setCellsF _ _ _ (by first | omega | simp) ?_ | with_reducible refine Ext.setCellF _ _ _ (by first | omega | simp) ?_ | with_reducible refine Ext.upFN (by first | omega | simp) ?_ | with_reducible refine Ext.up1F (by first | omega | simp) ?_ | with_reducible refine Ext.up1N (by first | omega | simp) ?_ | with_reducible refine Ext.setCell ?_ (.inr (by first | omega | simp)) _ | refine Ext.alloc ?_ _ | refine Ext.setCellF _ _ _ (by first | omega | simp) ?_ | refine Ext.setCell ?_ (.inr (by first | omega | simp)) _))⟩, hlt, rfl, by go_num, rfl, HF2⟩
        · obtain rfl : i = l.length := by omega
          have hd := HD.out
          rw [List.take_length] at hd
          have HC : Hid (chkE l = 0) := Go.Lib.hid (by unfold chkE; rw [if_pos HF.out, if_pos hd])
          clear hd HN HD
          go_wp2
          go_ret
          exact ⟨by rw [HC.out]; rfl, by (repeat (first | with_reducible exact Ext.refl _ _ | assumption | with_reducible refine Ext.upN ?_ | with_reducible refine Ext.alloc ?_ _ | with_reducible refine Ext.upA (by assumption) ?_ | with_reducible refine Ext.upW ?_ | with_reducible refine Ext.drew ?_ | with_reducible refine Ext.drewN ?_ _ | with_reducible refine Ext.upF ?_ | with_reducible refine Ext.upFF (by first | omega | simp) ?_ | with_reducible refine Ext.setCellsF _ _ _ (by first | omega | simp) ?_ | with_reducible refine Ext.setCellF _ _ _ (by first | omega | simp) ?_ | with_reducible refine Ext.upFN (by first | omega | simp) ?_ | with_reducible refine Ext.up1F (by first | omega | simp) ?_ | with_reducible refine Ext.up1N (by first | omega | simp) ?_ | with_reducible refine Ext.setCell ?_ (.inr (by first | omega | simp)) _ | refine Ext.alloc ?_ _ | refine Ext.setCellF _ _ _ (by first | omega | simp) ?_ | refine Ext.setCell ?_ (.inr (by first | omega | simp)) _))⟩
end Go.Proofs.Ytekbonciafbjiaa

/- Layer 22: Merge. -/
namespace Go.Proofs.Ytekbonciafbjiaa
open Go.RowKit Go.Lib F64
set_option linter.unusedSimpArgs false
set_option linter.unusedVariables false
attribute [local go_sem] run_store_float
attribute [local go_sem low] EW.cellN EW.frozN alloc_cell_or alloc_froz_or EW.cellF EW.frozF EW.cell1 EW.froz1
attribute [local go_sem] relAt relUpon
/-- An array's own block. -/
theorem wpList_alloc_box {P : Program} {ops : Array Oper} {rest : List Oper} {o : Oper} {a : Act} {w : World} {Q : Exit → Act → World → Prop} (hgd : o.guard = none) (ty : TypeId) (ho : o.op = .alloc ty) (R : List Value)
    (hi : (P.info? ty).map (·.zero) = some (some (.agg R.toArray)))
    (h : ∀ W : EW Non w, Bx W.on w.heap.size R ty → wpList P ops Q rest (a.put o.dst (.pointer (some ⟨w.heap.size, 0, none⟩))) W.on) : wpList P ops Q (o :: rest) a w := by
  have hrun : (execOp a.eval o).run P w = .ok (.value (.pointer (some ⟨w.heap.size, 0, none⟩))) (w.alloc (.cells R.toArray ty)) := by
    cases hp : P.info? ty with
    | none => rw [hp] at hi; cases hi
    | some i =>
      rw [hp] at hi
      simp only [Option.map_some, Option.some.injEq] at hi
      simp [execOp, ho, Instr.alloc, zeroValue, typeInfo, hp, hi, go_sem]
  refine wpList_plain hgd fun K hK => ?_
  unfold Oper.wp
  rw [hrun, Oper.upon_value]
  exact hK _ _ (h ⟨_, (Ext.refl _ _).alloc _⟩ (Bx.new _ _ _))
def tabP (g : Option Addr) (pm : Nat → Option Nat) (j : Nat) : Value := match pm j with | none => .pointer none | some i => .pointer (some ⟨(g.getD ⟨0, 0, none⟩).block, (g.getD ⟨0, 0, none⟩).off + i * 7 + 1, none⟩)
def tabC (g : Option Addr) (pm : Nat → Option Nat) : List Value := (List.range 245).map (tabP g pm)
theorem tabC_get (g : Option Addr) (pm : Nat → Option Nat) {j : Nat} (h : j < 245) : (tabC g pm)[j]? = some (tabP g pm j) := by
  unfold tabC
  rw [List.getElem?_map, List.getElem?_range h]; rfl
def putP (pm : Nat → Option Nat) (j i : Nat) : Nat → Option Nat := fun n => if n = j then some i else pm n
theorem putP_same (pm : Nat → Option Nat) (j i : Nat) : putP pm j i j = some i := if_pos rfl
theorem putP_other (pm : Nat → Option Nat) {j n : Nat} (i : Nat) (h : ¬ n = j) : putP pm j i n = pm n := if_neg h
theorem tabC_set (g : Option Addr) (pm : Nat → Option Nat) {j : Nat} (h : j < 245) (i : Nat) (v : Value) (hv : v = tabP g (putP pm j i) j) : (tabC g pm).set j v = tabC g (putP pm j i) := by
  apply List.ext_getElem?
  intro n
  rw [List.getElem?_set]
  have hl : (tabC g pm).length = 245 := by unfold tabC; simp
  by_cases hn : n < 245
  · rw [tabC_get _ _ hn, tabC_get _ _ hn]
    by_cases e : j = n
    · subst e
      rw [if_pos rfl, if_pos (by rw [hl]; exact h), hv]
    · rw [if_neg e]
      unfold tabP
      rw [putP_other pm i (fun q => e q.symm)]
  · have h1 : (tabC g (putP pm j i))[n]? = none := List.getElem?_eq_none (by unfold tabC; simp; omega)
    have h2 : (tabC g pm)[n]? = none := List.getElem?_eq_none (by rw [hl]; omega)
    rw [h1, h2, if_neg (by omega)]
theorem info_tab : (Try.prog.info? 98).map (·.zero) = some (some (.agg (tabC none (fun _ => none)).toArray)) := by kernel_rfl
theorem tabC_none (g : Option Addr) : tabC g (fun _ => none) = tabC none (fun _ => none) := by unfold tabC; congr 1
theorem most_take {l : List En} {i : Nat} (h : i < l.length) : mostE (l.take (i + 1)) = max (mostE (l.take i)) (l[i]).slot.toNat := by
  unfold mostE
  rw [List.take_succ_eq_append_getElem h, List.foldl_append]; rfl
/-- The table of pointers is the table of requests. -/
def TabR (l : List En) (m : Tab) (pm : Nat → Option Nat) (n : Nat) : Prop := ∀ j, (pm j = none ∧ m j = none) ∨ ∃ i, ∃ h : i < l.length, pm j = some i ∧ i < n ∧ m j = some (l[i]).req
theorem TabR.put {l : List En} {m : Tab} {pm : Nat → Option Nat} {n : Nat} (h : TabR l m pm n) (hn : n < l.length) : TabR l (putE m l[n]) (putP pm (l[n]).slot.toNat n) (n + 1) := fun j => by
  by_cases e : j = (l[n]).slot.toNat
  · refine .inr ⟨n, hn, by unfold putP; rw [if_pos e], by omega, ?_⟩
    unfold putE; rw [if_pos e]
  · rcases h j with ⟨h1, h2⟩ | ⟨i, hi, h1, h2, h3⟩
    · refine .inl ⟨by rw [putP_other _ _ e]; exact h1, ?_⟩
      unfold putE; rw [if_neg e]; exact h2
    · refine .inr ⟨i, hi, by rw [putP_other _ _ e]; exact h1, by omega, ?_⟩
      unfold putE; rw [if_neg e]; exact h3
theorem fold_step {l : List En} {m : Tab} {i : Nat} (h : i < l.length) (hk : okPut m l[i] = true) : foldE m (l.drop i) = foldE (putE m l[i]) (l.drop (i + 1)) := by
  rw [List.drop_eq_getElem_cons h]
  show (if okPut m l[i] = true then _ else _) = _
  rw [if_pos hk]
theorem fold_stop {l : List En} {m : Tab} {i : Nat} (h : i < l.length) (hk : okPut m l[i] = false) : foldE m (l.drop i) = none := by
  rw [List.drop_eq_getElem_cons h]
  show (if okPut m l[i] = true then _ else _) = _
  rw [if_neg (by rw [hk]; simp)]
theorem slice_tab (kt mo : Nat) (h : mo ≤ 244) (W : World) : (Instr.sliceAt 98 (.pointer (some ⟨kt, 0, none⟩)) (some (.int .i64 1)) (some (.int .i64 ((mo : Int) + 1))) none).run Try.prog W = .ok (.slice (some ⟨kt, 1, none⟩) mo 244) W := by
  have e1 : Try.prog.arrayLen 98 = 245 := by kernel_rfl
  have e2 : (Try.prog.info? 97).map (·.size) = some 1 := by kernel_rfl
  rw [run_sliceAt_array_lh (P := Try.prog) W 98 ⟨kt, 0, none⟩ (by kernel_rfl) .i64 .i64 1 ((mo : Int) + 1) (by omega) (by omega) (by rw [e1]; omega), e1]
  cases hp : Try.prog.info? 97 with
  | none => rw [hp] at e2; cases e2
  | some i =>
    rw [hp] at e2
    simp only [Option.map_some, Option.some.injEq] at e2
    have e4 : ((mo : Int) + 1).toNat = mo + 1 := by omega
    rw [e4]
    simp [sizeOf, typeInfo, hp, e2, go_sem, slicedAt]
theorem full_succ (m : Tab) (j : Nat) : fullT m (j + 1) = (fullT m j && (m (j + 1)).isSome) := by
  unfold fullT
  rw [List.range_succ, List.all_append]; simp
theorem full_not (m : Tab) {j mo : Nat} (h : j < mo) (e : m (j + 1) = none) : fullT m mo = false := by
  unfold fullT
  rw [List.all_eq_false]
  exact ⟨j, List.mem_range.2 h, by rw [e]; simp⟩
theorem list_succ (m : Tab) (j : Nat) {r : Req} (e : m (j + 1) = some r) : listT m (j + 1) = listT m j ++ [r] := by
  unfold listT
  rw [List.range_succ, List.filterMap_append, List.filterMap_cons, e]; rfl
theorem list_le (m : Tab) (j : Nat) : (listT m j).length ≤ j := by
  unfold listT
  have := List.length_filterMap_le (fun j => m (j + 1)) (List.range j)
  simpa using this
set_option maxHeartbeats 4000000 in
set_option maxRecDepth 100000 in
theorem saga_Merge (a : Option Addr) (cap : Nat) (rs : List EnR) (hlim : (allE rs).length ≤ 2097152) (hok : ∀ x ∈ allE rs, x.ok) (w : World) (h : EEs w a cap rs) : Calls Try.prog 19 #[.slice a rs.length cap] w fun e w' =>
    ∃ v, e = .returned (.tuple #[v, .int .i64 (mergeE (allE rs))]) ∧ w'.ownsRow w.heap.size 37 6 v (mergeL (allE rs)).length ((mergeL (allE rs)).flatMap Req.cells) ∧ Ext Non w w' := by
  have HA := Go.Lib.hid h
  clear h
  obtain ⟨l, hl⟩ : ∃ l, l = allE rs := ⟨_, rfl⟩
  rw [← hl] at hlim hok ⊢
  have HLL := Go.Lib.hid hl
  have HK := Go.Lib.hid hok
  clear hl hok
  go_enter Try.func19, Try.ntmps19
  go_wp2_with fail
  refine (slices_Concat a cap rs (by rw [← HLL.out]; exact hlim) w HA.out).mono ?_
  rintro e _ ⟨v0, rfl, hO, hx⟩
  rw [← HLL.out] at hO
  obtain ⟨x1, rfl⟩ := hx.ew
  obtain ⟨ga, gcap, rfl, hE⟩ := ens_of_own _ hO
  have HE := Go.Lib.hid hE
  have s1 := hE.small; have s2 := hE.le
  clear hO hE hx
  go_wp2_with fail
  refine Calls.ew (saga_check ga gcap l HK.out _ HE.out) ?_
  rintro e x2 rfl
  by_cases hc : chkE l = 0
  · have HC := Go.Lib.hid hc
    have HQ := Go.Lib.hid (chk_asked hc)
    have HE2 := Go.Lib.hid (HE.out.extN x2.ext)
    rw [HC.out]
    clear hc
    have X2 : Ext Non w x2.on := by (repeat (first | with_reducible exact Ext.refl _ _ | assumption | with_reducible refine Ext.upN ?_ | with_reducible refine Ext.alloc ?_ _ | with_reducible refine Ext.upA (by assumption) ?_ | with_reducible refine Ext.upW ?_ | with_reducible refine Ext.drew ?_ | with_reducible refine Ext.drewN ?_ _ | with_reducible refine Ext.upF ?_ | with_reducible refine Ext.upFF (by first | omega | simp) ?_ | with_reducible refine Ext.setCellsF _ _ _ (by first | omega | simp) ?_ | with_reducible refine Ext.setCellF _ _ _ (by first | omega | simp) ?_ | with_reducible refine Ext.upFN (by first | omega | simp) ?_ | with_reducible refine Ext.up1F (by first | omega | simp) ?_ | with_reducible refine Ext.up1N (by first | omega | simp) ?_ | with_reducible refine Ext.setCell ?_ (.inr (by first | omega | simp)) _ | refine Ext.alloc ?_ _ | refine Ext.setCellF _ _ _ (by first | omega | simp) ?_ | refine Ext.setCell ?_ (.inr (by first | omega | simp)) _))
    obtain ⟨x3, hx3⟩ := X2.ew
    rw [hx3] at HE2 ⊢
    clear hx3 X2 HE x2 x1
    go_wp2_with (refine wpList_alloc_box rfl 98 rfl _ info_tab (fun W hB => ?_); have HB := Go.Lib.hid hB; clear hB)
    have TR0 : Hid (TabR l (fun _ => none) (fun _ => none) 0) := Go.Lib.hid (fun j => .inl ⟨rfl, rfl⟩)
    have HB0 : Hid (Bx W.on x3.on.heap.size (tabC ga (fun _ => none)) 98) := Go.Lib.hid (by rw [tabC_none]; exact HB.out)
    clear HB
    obtain ⟨kt, hkt⟩ : ∃ kt, kt = x3.on.heap.size := ⟨_, rfl⟩
    have HKT := Go.Lib.hid hkt
    rw [← hkt] at HB0 ⊢
    clear hkt
    go_wp2_with fail
    go_loopg [7, 23] l.length (fun n mv iv wr => ∃ (i : Nat) (m : Tab) (pm : Nat → Option Nat) (z : EW Non x3.on), i ≤ l.length ∧ n = l.length - i ∧ iv = .int .i64 i ∧ mv = .int .i64 (mostE (l.take i) : Nat) ∧ wr = z.on ∧ Hid (Bx wr kt (tabC ga pm) 98) ∧ Hid (TabR l m pm i) ∧ Hid (foldE (fun _ => none) l = foldE m (l.drop i)))
    case atStart => exact ⟨0, _, _, ⟨_, by (repeat (first | with_reducible exact Ext.refl _ _ | assumption | with_reducible refine Ext.upN ?_ | with_reducible refine Ext.alloc ?_ _ | with_reducible refine Ext.upA (by assumption) ?_ | with_reducible refine Ext.upW ?_ | with_reducible refine Ext.drew ?_ | with_reducible refine Ext.drewN ?_ _ | with_reducible refine Ext.upF ?_ | with_reducible refine Ext.upFF (by first | omega | simp) ?_ | with_reducible refine Ext.setCellsF _ _ _ (by first | omega | simp) ?_ | with_reducible refine Ext.setCellF _ _ _ (by first | omega | simp) ?_ | with_reducible refine Ext.upFN (by first | omega | simp) ?_ | with_reducible refine Ext.up1F (by first | omega | simp) ?_ | with_reducible refine Ext.up1N (by first | omega | simp) ?_ | with_reducible refine Ext.setCell ?_ (.inr (by first | omega | simp)) _ | refine Ext.alloc ?_ _ | refine Ext.setCellF _ _ _ (by first | omega | simp) ?_ | refine Ext.setCell ?_ (.inr (by first | omega | simp)) _))⟩, Nat.zero_le _, rfl, rfl, rfl, rfl, HB0, TR0, Go.Lib.hid rfl⟩
    case round =>
      clear HB0 TR0
      obtain ⟨i, m, pm, z, hi, hn, rfl, rfl, rfl, HB, HT, HF⟩ := hrel
      have HN := Go.Lib.hid hn; clear hn
      have hml : mostE (l.take i) ≤ 244 := most_le _ 0 244 (by omega) (fun x hx => by have := (HQ.out x (List.mem_of_mem_take hx)).2; omega)
      by_cases hlt : i < l.length
      · obtain ⟨ab, ao, rfl, hab, hc⟩ := HE2.out.at_ i hlt
        have HR := Go.Lib.hid (HK.out _ (List.getElem_mem hlt)).2
        have hqs := (HQ.out _ (List.getElem_mem hlt)).2
        have HM := Go.Lib.hid (most_take hlt)
        have HS1 : Hid (okPut m l[i] = true → foldE (fun _ => none) l = foldE (putE m l[i]) (l.drop (i + 1))) := Go.Lib.hid (fun e => HF.out.trans (fold_step hlt e))
        have HS2 : Hid (okPut m l[i] = false → mergeE l = 22 ∧ mergeL l = []) := Go.Lib.hid (fun e => by
          have e1 := HF.out.trans (fold_stop hlt e)
          have e2 : mergeE l = 22 := by unfold mergeE; rw [if_pos HC.out, e1]
          exact ⟨e2, by unfold mergeL; rw [if_neg (by rw [e2]; decide)]⟩)
        have HP := Go.Lib.hid (HT.out.put hlt)
        have HO : Hid (okPut m l[i] = (match m (l[i]).slot.toNat with | some r => sameT r (l[i]).req | none => true)) := Go.Lib.hid rfl
        generalize l[i] = o at *
        obtain ⟨sl, ⟨c, st, ⟨k, key, x, id⟩⟩⟩ := o
        obtain ⟨sn, rfl⟩ : ∃ sn : Nat, sl = (sn : Int) := ⟨sl.toNat, by simp only at hqs; omega⟩
        simp only [Int.toNat_natCast] at hqs HM HP HO
        have hs1 : 1 ≤ sn := by omega
        have hs2 : sn ≤ 244 := by omega
        have q0 : x3.on.cell? ⟨ab, ao + i * 7, none⟩ = some (.int .i64 (sn : Int)) := hc 0 _ rfl
        have q1 : x3.on.cell? ⟨ab, ao + i * 7 + 1, none⟩ = some (.int .i64 c) := hc 1 _ rfl
        have q2 : x3.on.cell? ⟨ab, ao + i * 7 + 2, none⟩ = some (.int .i64 st) := hc 2 _ rfl
        have q3 : x3.on.cell? ⟨ab, ao + i * 7 + 3, none⟩ = some (.int .i64 k) := hc 3 _ rfl
        have q4 : x3.on.cell? ⟨ab, ao + i * 7 + 4, none⟩ = some (.string key) := hc 4 _ rfl
        have q5 : x3.on.cell? ⟨ab, ao + i * 7 + 5, none⟩ = some (.float .f64 x) := hc 5 _ rfl
        have q6 : x3.on.cell? ⟨ab, ao + i * 7 + 6, none⟩ = some (.int .i64 id) := hc 6 _ rfl
        clear hc
        have HW : ∀ W : World, Bx W kt (tabC (some ⟨ab, ao, none⟩) (putP pm sn i)) 98 → True := fun _ _ => trivial
        rcases HT.out sn with ⟨p1, p2⟩ | ⟨j, hj, p1, p2, p3⟩
        · have y0 : z.on.cell? ⟨kt, sn, none⟩ = some (.pointer none) := HB.out.cell ((tabC_get _ _ (by omega)).trans (by unfold tabP; rw [p1]))
          have HG := Go.Lib.hid (HS1.out (by rw [HO.out, p2]))
          have P1 := Go.Lib.hid p1
          clear p1 p2
          go_wp2_with fail
          apply wp_region_rel (relR [Mo.is _, Mo.is _, Mo.is _, Mo.is _, Mo.is _, Mo.is _, Mo.is _, Mo.is _, Mo.is _, Mo.is _, Mo.is _, Mo.is _, Mo.is _]) (by kernel_rfl) (by kernel_rfl) (by kernel_rfl) (relR_mono _) (StepD.all ?st1) ?q1
          case st1 =>
            refine ⟨?_, ?_, ?_, ?_, ?_, ?_, ?_, ?_, ?_, ?_, ?_, ?_, ?_, trivial⟩
            · intro a' w' hx hs hd
              obtain ⟨y, rfl⟩ := hx.ew
              have e10 : a'.tmps[10]?.getD undef = _ := hs 10 rfl
              simp only [List.getElem?_toArray, List.getElem?_cons_succ, List.getElem?_cons_zero, Option.getD_some, Array.getElem?_eq_some_iff] at e10
              refine .inl ⟨rfl, ?_⟩
              clear hs hd hx
              go_simp
              exact ⟨Ext.refl _ _, rfl⟩
            · intro a' w' hx hs hd
              obtain ⟨y, rfl⟩ := hx.ew
              have e35 : a'.tmps[35]?.getD undef = _ := hd 0 35 rfl rfl
              refine .inl ⟨rfl, ?_⟩
              clear hs hd hx
              go_simp
              exact ⟨Ext.refl _ _, rfl⟩
            · intro a' w' hx hs hd
              obtain ⟨y, rfl⟩ := hx.ew
              have e36 : a'.tmps[36]?.getD undef = _ := hd 1 36 rfl rfl
              refine .inl ⟨rfl, ?_⟩
              clear hs hd hx
              go_simp
              exact ⟨Ext.refl _ _, rfl⟩
            · intro a' w' hx hs hd
              obtain ⟨y, rfl⟩ := hx.ew
              have eg : a'.tmps[37]?.getD undef = _ := hd 2 37 rfl rfl
              first
              | (refine .inr ⟨unwanted_of (j := 2) (d := 37) rfl rfl eg (by rfl), ?_⟩; exact (rfl : (Mo.is undef).p undef y.on))
              | (refine .inr ⟨unwanted_und (j := 2) (d := 37) rfl rfl eg, ?_⟩; exact (rfl : (Mo.is undef).p undef y.on))
              | (have e10 : a'.tmps[10]?.getD undef = _ := hs 10 rfl; simp only [List.getElem?_toArray, List.getElem?_cons_succ, List.getElem?_cons_zero, Option.getD_some, Array.getElem?_eq_some_iff] at e10; refine .inl ⟨wanted_of (j := 2) (d := 37) rfl rfl eg, ?_⟩; clear hs hd hx eg; go_simp; exact ⟨Ext.refl _ _, rfl⟩)
            · intro a' w' hx hs hd
              obtain ⟨y, rfl⟩ := hx.ew
              have eg : a'.tmps[37]?.getD undef = _ := hd 2 37 rfl rfl
              first
              | (refine .inr ⟨unwanted_of (j := 2) (d := 37) rfl rfl eg (by rfl), ?_⟩; exact (rfl : (Mo.is undef).p undef y.on))
              | (refine .inr ⟨unwanted_und (j := 2) (d := 37) rfl rfl eg, ?_⟩; exact (rfl : (Mo.is undef).p undef y.on))
              | (have e38 : a'.tmps[38]?.getD undef = _ := hd 3 38 rfl rfl; refine .inl ⟨wanted_of (j := 2) (d := 37) rfl rfl eg, ?_⟩; clear hs hd hx eg; go_simp; exact ⟨Ext.refl _ _, rfl⟩)
            · intro a' w' hx hs hd
              obtain ⟨y, rfl⟩ := hx.ew
              have eg : a'.tmps[37]?.getD undef = _ := hd 2 37 rfl rfl
              first
              | (refine .inr ⟨unwanted_of (j := 2) (d := 37) rfl rfl eg (by rfl), ?_⟩; exact (rfl : (Mo.is undef).p undef y.on))
              | (refine .inr ⟨unwanted_und (j := 2) (d := 37) rfl rfl eg, ?_⟩; exact (rfl : (Mo.is undef).p undef y.on))
              | (have e39 : a'.tmps[39]?.getD undef = _ := hd 4 39 rfl rfl; refine .inl ⟨wanted_of (j := 2) (d := 37) rfl rfl eg, ?_⟩; clear hs hd hx eg; go_simp; exact ⟨Ext.refl _ _, rfl⟩)
            · intro a' w' hx hs hd
              obtain ⟨y, rfl⟩ := hx.ew
              have eg : a'.tmps[37]?.getD undef = _ := hd 2 37 rfl rfl
              first
              | (refine .inr ⟨unwanted_of (j := 2) (d := 37) rfl rfl eg (by rfl), ?_⟩; exact (rfl : (Mo.is undef).p undef y.on))
              | (refine .inr ⟨unwanted_und (j := 2) (d := 37) rfl rfl eg, ?_⟩; exact (rfl : (Mo.is undef).p undef y.on))
              | (have e9 : a'.tmps[9]?.getD undef = _ := hs 9 rfl; simp only [List.getElem?_toArray, List.getElem?_cons_succ, List.getElem?_cons_zero, Option.getD_some, Array.getElem?_eq_some_iff] at e9; refine .inl ⟨wanted_of (j := 2) (d := 37) rfl rfl eg, ?_⟩; clear hs hd hx eg; go_simp; exact ⟨Ext.refl _ _, rfl⟩)
            · intro a' w' hx hs hd
              obtain ⟨y, rfl⟩ := hx.ew
              have eg : a'.tmps[37]?.getD undef = _ := hd 2 37 rfl rfl
              first
              | (refine .inr ⟨unwanted_of (j := 2) (d := 37) rfl rfl eg (by rfl), ?_⟩; exact (rfl : (Mo.is undef).p undef y.on))
              | (refine .inr ⟨unwanted_und (j := 2) (d := 37) rfl rfl eg, ?_⟩; exact (rfl : (Mo.is undef).p undef y.on))
              | (have e41 : a'.tmps[41]?.getD undef = _ := hd 6 41 rfl rfl; refine .inl ⟨wanted_of (j := 2) (d := 37) rfl rfl eg, ?_⟩; clear hs hd hx eg; go_simp; exact ⟨Ext.refl _ _, rfl⟩)
            · intro a' w' hx hs hd
              obtain ⟨y, rfl⟩ := hx.ew
              have eg : a'.tmps[37]?.getD undef = _ := hd 2 37 rfl rfl
              first
              | (refine .inr ⟨unwanted_of (j := 2) (d := 37) rfl rfl eg (by rfl), ?_⟩; exact (rfl : (Mo.is undef).p undef y.on))
              | (refine .inr ⟨unwanted_und (j := 2) (d := 37) rfl rfl eg, ?_⟩; exact (rfl : (Mo.is undef).p undef y.on))
              | (have e42 : a'.tmps[42]?.getD undef = _ := hd 7 42 rfl rfl; refine .inl ⟨wanted_of (j := 2) (d := 37) rfl rfl eg, ?_⟩; clear hs hd hx eg; go_simp; exact ⟨Ext.refl _ _, rfl⟩)
            · intro a' w' hx hs hd
              obtain ⟨y, rfl⟩ := hx.ew
              have eg : a'.tmps[37]?.getD undef = _ := hd 2 37 rfl rfl
              first
              | (refine .inr ⟨unwanted_of (j := 2) (d := 37) rfl rfl eg (by rfl), ?_⟩; exact (rfl : (Mo.is undef).p undef y.on))
              | (refine .inr ⟨unwanted_und (j := 2) (d := 37) rfl rfl eg, ?_⟩; exact (rfl : (Mo.is undef).p undef y.on))
              | (have e43 : a'.tmps[43]?.getD undef = _ := hd 8 43 rfl rfl; refine .inl ⟨wanted_of (j := 2) (d := 37) rfl rfl eg, ?_⟩; clear hs hd hx eg; go_simp; exact ⟨Ext.refl _ _, rfl⟩)
            · intro a' w' hx hs hd
              obtain ⟨y, rfl⟩ := hx.ew
              have eg : a'.tmps[37]?.getD undef = _ := hd 2 37 rfl rfl
              first
              | (refine .inr ⟨unwanted_of (j := 2) (d := 37) rfl rfl eg (by rfl), ?_⟩; exact (rfl : (Mo.is undef).p undef y.on))
              | (refine .inr ⟨unwanted_und (j := 2) (d := 37) rfl rfl eg, ?_⟩; exact (rfl : (Mo.is undef).p undef y.on))
              | (have e40 : a'.tmps[40]?.getD undef = _ := hd 5 40 rfl rfl; have e44 : a'.tmps[44]?.getD undef = _ := hd 9 44 rfl rfl; refine .inl ⟨wanted_of (j := 2) (d := 37) rfl rfl eg, ?_⟩; clear hs hd hx eg; go_simp; fail)
            · intro a' w' hx hs hd
              obtain ⟨y, rfl⟩ := hx.ew
              have eg : a'.tmps[37]?.getD undef = _ := hd 2 37 rfl rfl
              first
              | (refine .inr ⟨unwanted_of (j := 2) (d := 37) rfl rfl eg (by rfl), ?_⟩; exact (rfl : (Mo.is undef).p undef y.on))
              | (refine .inr ⟨unwanted_und (j := 2) (d := 37) rfl rfl eg, ?_⟩; exact (rfl : (Mo.is undef).p undef y.on))
              | (have e45 : a'.tmps[45]?.getD undef = _ := hd 10 45 rfl rfl; refine .inl ⟨wanted_of (j := 2) (d := 37) rfl rfl eg, ?_⟩; clear hs hd hx eg; go_simp; exact ⟨Ext.refl _ _, rfl⟩)
            · intro a' w' hx hs hd
              obtain ⟨y, rfl⟩ := hx.ew
              have e37 : a'.tmps[37]?.getD undef = _ := hd 2 37 rfl rfl
              have e46 : a'.tmps[46]?.getD undef = _ := hd 11 46 rfl rfl
              refine .inl ⟨rfl, ?_⟩
              clear hs hd hx
              go_simp
              exact ⟨Ext.refl _ _, rfl⟩
          case' q1 =>
            intro vs w' hx hRR
            obtain ⟨x5, rfl⟩ := hx.ew
            have q0 : vs 0 = _ := hRR 0 (by decide)
            have q1 : vs 1 = _ := hRR 1 (by decide)
            have q2 : vs 2 = _ := hRR 2 (by decide)
            have q3 : vs 3 = _ := hRR 3 (by decide)
            have q4 : vs 4 = _ := hRR 4 (by decide)
            have q5 : vs 5 = _ := hRR 5 (by decide)
            have q6 : vs 6 = _ := hRR 6 (by decide)
            have q7 : vs 7 = _ := hRR 7 (by decide)
            have q8 : vs 8 = _ := hRR 8 (by decide)
            have q9 : vs 9 = _ := hRR 9 (by decide)
            have q10 : vs 10 = _ := hRR 10 (by decide)
            have q11 : vs 11 = _ := hRR 11 (by decide)
            have q12 : vs 12 = _ := hRR 12 (by decide)
            clear hRR hx
            simp only [putAll, List.take_succ_cons, List.take_zero, List.drop_succ_cons, List.drop_zero, Act.put, List.setIfInBounds_toArray, List.set_cons_zero, List.set_cons_succ, Nat.reduceAdd, Nat.zero_add]
            simp only [q0, q1, q2, q3, q4, q5, q6, q7, q8, q9, q10, q11, q12]
            clear q0 q1 q2 q3 q4 q5 q6 q7 q8 q9 q10 q11 q12 vs
          have HB5 := Go.Lib.hid (HB.out.extN x5.ext)
          clear y0
          go_upto_region 14 with fail
          apply wp_region_rel_tail 8 (relR [Mo.is _, Mo.is _, Mo.is _, Mo.is _, Mo.is _, Mo.is _, Mo.is _, Mo.is _]) (by kernel_rfl) (by kernel_rfl) (by kernel_rfl) (by kernel_rfl) (by kernel_rfl) (by decide) (by kernel_rfl) (relR_mono _) (StepD.all ?st2) ?q2
          case st2 =>
            refine ⟨?_, ?_, ?_, ?_, ?_, ?_, ?_, ?_, trivial⟩
            · intro a' w' hx hs hd
              obtain ⟨y, rfl⟩ := hx.ew
              have e9 : a'.tmps[9]?.getD undef = _ := hs 9 rfl
              simp only [List.getElem?_toArray, List.getElem?_cons_succ, List.getElem?_cons_zero, Option.getD_some, Array.getElem?_eq_some_iff] at e9
              refine .inl ⟨rfl, ?_⟩
              clear hs hd hx
              go_simp
              exact ⟨Ext.refl _ _, rfl⟩
            · intro a' w' hx hs hd
              obtain ⟨y, rfl⟩ := hx.ew
              have e48 : a'.tmps[48]?.getD undef = _ := hd 0 48 rfl rfl
              refine .inl ⟨rfl, ?_⟩
              clear hs hd hx
              go_simp
              exact ⟨Ext.refl _ _, rfl⟩
            · intro a' w' hx hs hd
              obtain ⟨y, rfl⟩ := hx.ew
              have e49 : a'.tmps[49]?.getD undef = _ := hd 1 49 rfl rfl
              refine .inl ⟨rfl, ?_⟩
              clear hs hd hx
              go_simp
              exact ⟨Ext.refl _ _, rfl⟩
            · intro a' w' hx hs hd
              obtain ⟨y, rfl⟩ := hx.ew
              have e50 : a'.tmps[50]?.getD undef = _ := hd 2 50 rfl rfl
              refine .inl ⟨rfl, ?_⟩
              clear hs hd hx
              go_simp
              exact ⟨Ext.refl _ _, rfl⟩
            · intro a' w' hx hs hd
              obtain ⟨y, rfl⟩ := hx.ew
              have e9 : a'.tmps[9]?.getD undef = _ := hs 9 rfl
              simp only [List.getElem?_toArray, List.getElem?_cons_succ, List.getElem?_cons_zero, Option.getD_some, Array.getElem?_eq_some_iff] at e9
              refine .inl ⟨rfl, ?_⟩
              clear hs hd hx
              go_simp
              exact ⟨Ext.refl _ _, rfl⟩
            · intro a' w' hx hs hd
              obtain ⟨y, rfl⟩ := hx.ew
              have e52 : a'.tmps[52]?.getD undef = _ := hd 4 52 rfl rfl
              refine .inl ⟨rfl, ?_⟩
              clear hs hd hx
              go_simp
              exact ⟨Ext.refl _ _, rfl⟩
            · intro a' w' hx hs hd
              obtain ⟨y, rfl⟩ := hx.ew
              have e53 : a'.tmps[53]?.getD undef = _ := hd 5 53 rfl rfl
              refine .inl ⟨rfl, ?_⟩
              clear hs hd hx
              go_simp
              exact ⟨Ext.refl _ _, rfl⟩
            · intro a' w' hx hs hd
              obtain ⟨y, rfl⟩ := hx.ew
              have e6 : a'.tmps[6]?.getD undef = _ := hs 6 rfl
              simp only [List.getElem?_toArray, List.getElem?_cons_succ, List.getElem?_cons_zero, Option.getD_some, Array.getElem?_eq_some_iff] at e6
              have e51 : a'.tmps[51]?.getD undef = _ := hd 3 51 rfl rfl
              refine .inl ⟨rfl, ?_⟩
              clear hs hd hx
              go_simp
              rw [if_pos (by omega)]; exact ⟨Ext.refl _ _, rfl⟩
          case' q2 =>
            intro vs w' hx hRR
            obtain ⟨x6, rfl⟩ := hx.ew
            have q0 : vs 0 = _ := hRR 0 (by decide)
            have q1 : vs 1 = _ := hRR 1 (by decide)
            have q2 : vs 2 = _ := hRR 2 (by decide)
            have q3 : vs 3 = _ := hRR 3 (by decide)
            have q4 : vs 4 = _ := hRR 4 (by decide)
            have q5 : vs 5 = _ := hRR 5 (by decide)
            have q6 : vs 6 = _ := hRR 6 (by decide)
            have q7 : vs 7 = _ := hRR 7 (by decide)
            clear hRR hx
            simp only [putAll, List.take_succ_cons, List.take_zero, List.drop_succ_cons, List.drop_zero, Act.put, List.setIfInBounds_toArray, List.set_cons_zero, List.set_cons_succ, Nat.reduceAdd, Nat.zero_add]
            simp only [q0, q1, q2, q3, q4, q5, q6, q7]
            clear q0 q1 q2 q3 q4 q5 q6 q7 vs
          have HB6 := Go.Lib.hid (HB5.out.extN (by (repeat (first | with_reducible exact Ext.refl _ _ | assumption | with_reducible refine Ext.upN ?_ | with_reducible refine Ext.alloc ?_ _ | with_reducible refine Ext.upA (by assumption) ?_ | with_reducible refine Ext.upW ?_ | with_reducible refine Ext.drew ?_ | with_reducible refine Ext.drewN ?_ _ | with_reducible refine Ext.upF ?_ | with_reducible refine Ext.upFF (by first | omega | simp) ?_ | with_reducible refine Ext.setCellsF _ _ _ (by first | omega | simp) ?_ | with_reducible refine Ext.setCellF _ _ _ (by first | omega | simp) ?_ | with_reducible refine Ext.upFN (by first | omega | simp) ?_ | with_reducible refine Ext.up1F (by first | omega | simp) ?_ | with_reducible refine Ext.up1N (by first | omega | simp) ?_ | with_reducible refine Ext.setCell ?_ (.inr (by first | omega | simp)) _ | refine Ext.alloc ?_ _ | refine Ext.setCellF _ _ _ (by first | omega | simp) ?_ | refine Ext.setCell ?_ (.inr (by first | omega | simp)) _)) : Ext Non x5.on x6.on))
          obtain ⟨vo, hvo⟩ : ∃ vo, vo = tabP (some ⟨ab, ao, none⟩) pm sn := ⟨_, rfl⟩
          have y6 : x6.on.cell? ⟨kt, sn, none⟩ = some vo := by rw [hvo]; exact HB6.out.cell (tabC_get _ _ (by omega))
          have f6 : x6.on.frozen? ⟨kt, sn, none⟩ = false := froz_of_heap HB6.out.h
          clear hvo
          go_upto_region 15 with fail
          have HB7 := Go.Lib.hid (HB6.out.set (j := sn) (.pointer (some ⟨ab, ao + i * 7 + 1, none⟩)))
          rw [tabC_set _ _ (by omega) i _ (by unfold tabP; rw [putP_same]; rfl)] at HB7
          have hkl : x3.on.heap.size ≤ kt := by rw [HKT.out]; exact Nat.le_refl _
          have X7 : Ext Non x3.on (x6.on.setCell ⟨kt, sn, none⟩ (.pointer (some ⟨ab, ao + i * 7 + 1, none⟩))) := by (repeat (first | with_reducible exact Ext.refl _ _ | assumption | with_reducible refine Ext.upN ?_ | with_reducible refine Ext.alloc ?_ _ | with_reducible refine Ext.upA (by assumption) ?_ | with_reducible refine Ext.upW ?_ | with_reducible refine Ext.drew ?_ | with_reducible refine Ext.drewN ?_ _ | with_reducible refine Ext.upF ?_ | with_reducible refine Ext.upFF (by first | omega | simp) ?_ | with_reducible refine Ext.setCellsF _ _ _ (by first | omega | simp) ?_ | with_reducible refine Ext.setCellF _ _ _ (by first | omega | simp) ?_ | with_reducible refine Ext.upFN (by first | omega | simp) ?_ | with_reducible refine Ext.up1F (by first | omega | simp) ?_ | with_reducible refine Ext.up1N (by first | omega | simp) ?_ | with_reducible refine Ext.setCell ?_ (.inr (by first | omega | simp)) _ | refine Ext.alloc ?_ _ | refine Ext.setCellF _ _ _ (by first | omega | simp) ?_ | refine Ext.setCell ?_ (.inr (by first | omega | simp)) _))
          obtain ⟨x7, hx7⟩ := X7.ew
          rw [hx7] at HB7 ⊢
          clear hx7 X7 HB6 y6 f6 HB5
          have hmx : max (mostE (l.take i)) sn ≤ 244 := by omega
          go_wp2_with fail
          all_goals
            go_roundg (l.length - (i + 1))
            case measure => have := HN.out; omega
            case rel => exact ⟨i + 1, _, _, ⟨_, by (repeat (first | with_reducible exact Ext.refl _ _ | assumption | with_reducible refine Ext.upN ?_ | with_reducible refine Ext.alloc ?_ _ | with_reducible refine Ext.upA (by assumption) ?_ | with_reducible refine Ext.upW ?_ | with_reducible refine Ext.drew ?_ | with_reducible refine Ext.drewN ?_ _ | with_reducible refine Ext.upF ?_ | with_reducible refine Ext.upFF (by first | omega | simp) ?_ | with_reducible refine Ext.setCellsF _ _ _ (by first | omega | simp) ?_ | with_reducible refine Ext.setCellF _ _ _ (by first | omega | simp) ?_ | with_reducible refine Ext.upFN (by first | omega | simp) ?_ | with_reducible refine Ext.up1F (by first | omega | simp) ?_ | with_reducible refine Ext.up1N (by first | omega | simp) ?_ | with_reducible refine Ext.setCell ?_ (.inr (by first | omega | simp)) _ | refine Ext.alloc ?_ _ | refine Ext.setCellF _ _ _ (by first | omega | simp) ?_ | refine Ext.setCell ?_ (.inr (by first | omega | simp)) _))⟩, hlt, rfl, by go_num, by rw [HM.out]; first | rw [Nat.max_eq_left (by omega)] | rw [Nat.max_eq_right (by omega)], rfl, HB7, HP, HG⟩
        · have y0 : z.on.cell? ⟨kt, sn, none⟩ = some (.pointer (some ⟨ab, ao + j * 7 + 1, none⟩)) := HB.out.cell ((tabC_get _ _ (by omega)).trans (by unfold tabP; rw [p1]; rfl))
          obtain ⟨ab', ao', e', -, hc⟩ := HE2.out.at_ j hj
          injection e' with e'
          injection e' with e1 e2
          subst e1; subst e2
          have HR2 := Go.Lib.hid (HK.out _ (List.getElem_mem hj)).2
          generalize l[j] = o2 at *
          obtain ⟨sl2, ⟨c2, st2, ⟨k2, key2, xx2, id2⟩⟩⟩ := o2
          have v1 : x3.on.cell? ⟨ab, ao + j * 7 + 1, none⟩ = some (.int .i64 c2) := hc 1 _ rfl
          have v2 : x3.on.cell? ⟨ab, ao + j * 7 + 2, none⟩ = some (.int .i64 st2) := hc 2 _ rfl
          have v3 : x3.on.cell? ⟨ab, ao + j * 7 + 3, none⟩ = some (.int .i64 k2) := hc 3 _ rfl
          have v4 : x3.on.cell? ⟨ab, ao + j * 7 + 4, none⟩ = some (.string key2) := hc 4 _ rfl
          have v5 : x3.on.cell? ⟨ab, ao + j * 7 + 5, none⟩ = some (.float .f64 xx2) := hc 5 _ rfl
          have v6 : x3.on.cell? ⟨ab, ao + j * 7 + 6, none⟩ = some (.int .i64 id2) := hc 6 _ rfl
          have HS : Hid (okPut m ⟨(sn : Int), ⟨c, st, ⟨k, key, x, id⟩⟩⟩ = sameT ⟨c2, st2, ⟨k2, key2, xx2, id2⟩⟩ ⟨c, st, ⟨k, key, x, id⟩⟩) := Go.Lib.hid (by rw [HO.out, p3])
          have P1 := Go.Lib.hid p1
          clear hc p1 p2 p3
          go_wp2_with fail
          apply wp_region_rel (relR [Mo.is _, Mo.is _, Mo.is _, Mo.is _, Mo.is _, Mo.is _, Mo.is _, Mo.is _, Mo.is _, Mo.is _, Mo.is _, Mo.is _, Mo.is _]) (by kernel_rfl) (by kernel_rfl) (by kernel_rfl) (relR_mono _) (StepD.all ?st3) ?q3
          case st3 =>
            refine ⟨?_, ?_, ?_, ?_, ?_, ?_, ?_, ?_, ?_, ?_, ?_, ?_, ?_, trivial⟩
            · intro a' w' hx hs hd
              obtain ⟨y, rfl⟩ := hx.ew
              have e10 : a'.tmps[10]?.getD undef = _ := hs 10 rfl
              simp only [List.getElem?_toArray, List.getElem?_cons_succ, List.getElem?_cons_zero, Option.getD_some, Array.getElem?_eq_some_iff] at e10
              refine .inl ⟨rfl, ?_⟩
              clear hs hd hx
              go_simp
              exact ⟨Ext.refl _ _, rfl⟩
            · intro a' w' hx hs hd
              obtain ⟨y, rfl⟩ := hx.ew
              have e35 : a'.tmps[35]?.getD undef = _ := hd 0 35 rfl rfl
              refine .inl ⟨rfl, ?_⟩
              clear hs hd hx
              go_simp
              exact ⟨Ext.refl _ _, rfl⟩
            · intro a' w' hx hs hd
              obtain ⟨y, rfl⟩ := hx.ew
              have e36 : a'.tmps[36]?.getD undef = _ := hd 1 36 rfl rfl
              refine .inl ⟨rfl, ?_⟩
              clear hs hd hx
              go_simp
              exact ⟨Ext.refl _ _, rfl⟩
            · intro a' w' hx hs hd
              obtain ⟨y, rfl⟩ := hx.ew
              have eg : a'.tmps[37]?.getD undef = _ := hd 2 37 rfl rfl
              first
              | (refine .inr ⟨unwanted_of (j := 2) (d := 37) rfl rfl eg (by rfl), ?_⟩; exact (rfl : (Mo.is undef).p undef y.on))
              | (refine .inr ⟨unwanted_und (j := 2) (d := 37) rfl rfl eg, ?_⟩; exact (rfl : (Mo.is undef).p undef y.on))
              | (have e10 : a'.tmps[10]?.getD undef = _ := hs 10 rfl; simp only [List.getElem?_toArray, List.getElem?_cons_succ, List.getElem?_cons_zero, Option.getD_some, Array.getElem?_eq_some_iff] at e10; refine .inl ⟨wanted_of (j := 2) (d := 37) rfl rfl eg, ?_⟩; clear hs hd hx eg; go_simp; exact ⟨Ext.refl _ _, rfl⟩)
            · intro a' w' hx hs hd
              obtain ⟨y, rfl⟩ := hx.ew
              have eg : a'.tmps[37]?.getD undef = _ := hd 2 37 rfl rfl
              first
              | (refine .inr ⟨unwanted_of (j := 2) (d := 37) rfl rfl eg (by rfl), ?_⟩; exact (rfl : (Mo.is undef).p undef y.on))
              | (refine .inr ⟨unwanted_und (j := 2) (d := 37) rfl rfl eg, ?_⟩; exact (rfl : (Mo.is undef).p undef y.on))
              | (have e38 : a'.tmps[38]?.getD undef = _ := hd 3 38 rfl rfl; refine .inl ⟨wanted_of (j := 2) (d := 37) rfl rfl eg, ?_⟩; clear hs hd hx eg; go_simp; exact ⟨Ext.refl _ _, rfl⟩)
            · intro a' w' hx hs hd
              obtain ⟨y, rfl⟩ := hx.ew
              have eg : a'.tmps[37]?.getD undef = _ := hd 2 37 rfl rfl
              first
              | (refine .inr ⟨unwanted_of (j := 2) (d := 37) rfl rfl eg (by rfl), ?_⟩; exact (rfl : (Mo.is undef).p undef y.on))
              | (refine .inr ⟨unwanted_und (j := 2) (d := 37) rfl rfl eg, ?_⟩; exact (rfl : (Mo.is undef).p undef y.on))
              | (have e39 : a'.tmps[39]?.getD undef = _ := hd 4 39 rfl rfl; refine .inl ⟨wanted_of (j := 2) (d := 37) rfl rfl eg, ?_⟩; clear hs hd hx eg; go_simp; exact ⟨Ext.refl _ _, rfl⟩)
            · intro a' w' hx hs hd
              obtain ⟨y, rfl⟩ := hx.ew
              have eg : a'.tmps[37]?.getD undef = _ := hd 2 37 rfl rfl
              first
              | (refine .inr ⟨unwanted_of (j := 2) (d := 37) rfl rfl eg (by rfl), ?_⟩; exact (rfl : (Mo.is undef).p undef y.on))
              | (refine .inr ⟨unwanted_und (j := 2) (d := 37) rfl rfl eg, ?_⟩; exact (rfl : (Mo.is undef).p undef y.on))
              | (have e9 : a'.tmps[9]?.getD undef = _ := hs 9 rfl; simp only [List.getElem?_toArray, List.getElem?_cons_succ, List.getElem?_cons_zero, Option.getD_some, Array.getElem?_eq_some_iff] at e9; refine .inl ⟨wanted_of (j := 2) (d := 37) rfl rfl eg, ?_⟩; clear hs hd hx eg; go_simp; exact ⟨Ext.refl _ _, rfl⟩)
            · intro a' w' hx hs hd
              obtain ⟨y, rfl⟩ := hx.ew
              have eg : a'.tmps[37]?.getD undef = _ := hd 2 37 rfl rfl
              first
              | (refine .inr ⟨unwanted_of (j := 2) (d := 37) rfl rfl eg (by rfl), ?_⟩; exact (rfl : (Mo.is undef).p undef y.on))
              | (refine .inr ⟨unwanted_und (j := 2) (d := 37) rfl rfl eg, ?_⟩; exact (rfl : (Mo.is undef).p undef y.on))
              | (have e41 : a'.tmps[41]?.getD undef = _ := hd 6 41 rfl rfl; refine .inl ⟨wanted_of (j := 2) (d := 37) rfl rfl eg, ?_⟩; clear hs hd hx eg; go_simp; exact ⟨Ext.refl _ _, rfl⟩)
            · intro a' w' hx hs hd
              obtain ⟨y, rfl⟩ := hx.ew
              have eg : a'.tmps[37]?.getD undef = _ := hd 2 37 rfl rfl
              first
              | (refine .inr ⟨unwanted_of (j := 2) (d := 37) rfl rfl eg (by rfl), ?_⟩; exact (rfl : (Mo.is undef).p undef y.on))
              | (refine .inr ⟨unwanted_und (j := 2) (d := 37) rfl rfl eg, ?_⟩; exact (rfl : (Mo.is undef).p undef y.on))
              | (have e42 : a'.tmps[42]?.getD undef = _ := hd 7 42 rfl rfl; refine .inl ⟨wanted_of (j := 2) (d := 37) rfl rfl eg, ?_⟩; clear hs hd hx eg; go_simp; exact ⟨Ext.refl _ _, rfl⟩)
            · intro a' w' hx hs hd
              obtain ⟨y, rfl⟩ := hx.ew
              have eg : a'.tmps[37]?.getD undef = _ := hd 2 37 rfl rfl
              first
              | (refine .inr ⟨unwanted_of (j := 2) (d := 37) rfl rfl eg (by rfl), ?_⟩; exact (rfl : (Mo.is undef).p undef y.on))
              | (refine .inr ⟨unwanted_und (j := 2) (d := 37) rfl rfl eg, ?_⟩; exact (rfl : (Mo.is undef).p undef y.on))
              | (have e43 : a'.tmps[43]?.getD undef = _ := hd 8 43 rfl rfl; refine .inl ⟨wanted_of (j := 2) (d := 37) rfl rfl eg, ?_⟩; clear hs hd hx eg; go_simp; exact ⟨Ext.refl _ _, rfl⟩)
            · intro a' w' hx hs hd
              obtain ⟨y, rfl⟩ := hx.ew
              have eg : a'.tmps[37]?.getD undef = _ := hd 2 37 rfl rfl
              first
              | (refine .inr ⟨unwanted_of (j := 2) (d := 37) rfl rfl eg (by rfl), ?_⟩; exact (rfl : (Mo.is undef).p undef y.on))
              | (refine .inr ⟨unwanted_und (j := 2) (d := 37) rfl rfl eg, ?_⟩; exact (rfl : (Mo.is undef).p undef y.on))
              | (have e40 : a'.tmps[40]?.getD undef = _ := hd 5 40 rfl rfl; have e44 : a'.tmps[44]?.getD undef = _ := hd 9 44 rfl rfl; refine .inl ⟨wanted_of (j := 2) (d := 37) rfl rfl eg, ?_⟩; clear hs hd hx eg; go_simp; exact (deeds_Same c2 st2 k2 key2 xx2 id2 c st k key x id HR2.out HR.out _).mono (fun e w'' ⟨he, hx⟩ => ⟨_, he, hx, rfl⟩))
            · intro a' w' hx hs hd
              obtain ⟨y, rfl⟩ := hx.ew
              have eg : a'.tmps[37]?.getD undef = _ := hd 2 37 rfl rfl
              first
              | (refine .inr ⟨unwanted_of (j := 2) (d := 37) rfl rfl eg (by rfl), ?_⟩; exact (rfl : (Mo.is undef).p undef y.on))
              | (refine .inr ⟨unwanted_und (j := 2) (d := 37) rfl rfl eg, ?_⟩; exact (rfl : (Mo.is undef).p undef y.on))
              | (have e45 : a'.tmps[45]?.getD undef = _ := hd 10 45 rfl rfl; refine .inl ⟨wanted_of (j := 2) (d := 37) rfl rfl eg, ?_⟩; clear hs hd hx eg; go_simp; exact ⟨Ext.refl _ _, rfl⟩)
            · intro a' w' hx hs hd
              obtain ⟨y, rfl⟩ := hx.ew
              have e37 : a'.tmps[37]?.getD undef = _ := hd 2 37 rfl rfl
              have e46 : a'.tmps[46]?.getD undef = _ := hd 11 46 rfl rfl
              refine .inl ⟨rfl, ?_⟩
              clear hs hd hx
              go_simp
              exact ⟨Ext.refl _ _, rfl⟩
          case' q3 =>
            intro vs w' hx hRR
            obtain ⟨x5, rfl⟩ := hx.ew
            have q0 : vs 0 = _ := hRR 0 (by decide)
            have q1 : vs 1 = _ := hRR 1 (by decide)
            have q2 : vs 2 = _ := hRR 2 (by decide)
            have q3 : vs 3 = _ := hRR 3 (by decide)
            have q4 : vs 4 = _ := hRR 4 (by decide)
            have q5 : vs 5 = _ := hRR 5 (by decide)
            have q6 : vs 6 = _ := hRR 6 (by decide)
            have q7 : vs 7 = _ := hRR 7 (by decide)
            have q8 : vs 8 = _ := hRR 8 (by decide)
            have q9 : vs 9 = _ := hRR 9 (by decide)
            have q10 : vs 10 = _ := hRR 10 (by decide)
            have q11 : vs 11 = _ := hRR 11 (by decide)
            have q12 : vs 12 = _ := hRR 12 (by decide)
            clear hRR hx
            simp only [putAll, List.take_succ_cons, List.take_zero, List.drop_succ_cons, List.drop_zero, Act.put, List.setIfInBounds_toArray, List.set_cons_zero, List.set_cons_succ, Nat.reduceAdd, Nat.zero_add]
            simp only [q0, q1, q2, q3, q4, q5, q6, q7, q8, q9, q10, q11, q12]
            clear q0 q1 q2 q3 q4 q5 q6 q7 q8 q9 q10 q11 q12 vs
          have HB5 := Go.Lib.hid (HB.out.extN x5.ext)
          clear y0 v1 v2 v3 v4 v5 v6
          cases hsm : sameT ⟨c2, st2, ⟨k2, key2, xx2, id2⟩⟩ ⟨c, st, ⟨k, key, x, id⟩⟩
          · have H2 := Go.Lib.hid (HS2.out (HS.out.trans hsm))
            clear hsm
            go_wp2
            go_returns
            have e1 := H2.out.1
            refine ⟨.slice none 0 0, by rw [e1]; rfl, ?_, by (repeat (first | with_reducible exact Ext.refl _ _ | assumption | with_reducible refine Ext.upN ?_ | with_reducible refine Ext.alloc ?_ _ | with_reducible refine Ext.upA (by assumption) ?_ | with_reducible refine Ext.upW ?_ | with_reducible refine Ext.drew ?_ | with_reducible refine Ext.drewN ?_ _ | with_reducible refine Ext.upF ?_ | with_reducible refine Ext.upFF (by first | omega | simp) ?_ | with_reducible refine Ext.setCellsF _ _ _ (by first | omega | simp) ?_ | with_reducible refine Ext.setCellF _ _ _ (by first | omega | simp) ?_ | with_reducible refine Ext.upFN (by first | omega | simp) ?_ | with_reducible refine Ext.up1F (by first | omega | simp) ?_ | with_reducible refine Ext.up1N (by first | omega | simp) ?_ | with_reducible refine Ext.setCell ?_ (.inr (by first | omega | simp)) _ | refine Ext.alloc ?_ _ | refine Ext.setCellF _ _ _ (by first | omega | simp) ?_ | refine Ext.setCell ?_ (.inr (by first | omega | simp)) _))⟩
            rw [H2.out.2]
            exact World.ownsRow_nil _ _ _ _
          have HG := Go.Lib.hid (HS1.out (HS.out.trans hsm))
          clear hsm
          go_upto_region 14 with fail
          apply wp_region_rel_tail 8 (relR [Mo.is _, Mo.is _, Mo.is _, Mo.is _, Mo.is _, Mo.is _, Mo.is _, Mo.is _]) (by kernel_rfl) (by kernel_rfl) (by kernel_rfl) (by kernel_rfl) (by kernel_rfl) (by decide) (by kernel_rfl) (relR_mono _) (StepD.all ?st4) ?q4
          case st4 =>
            refine ⟨?_, ?_, ?_, ?_, ?_, ?_, ?_, ?_, trivial⟩
            · intro a' w' hx hs hd
              obtain ⟨y, rfl⟩ := hx.ew
              have e9 : a'.tmps[9]?.getD undef = _ := hs 9 rfl
              simp only [List.getElem?_toArray, List.getElem?_cons_succ, List.getElem?_cons_zero, Option.getD_some, Array.getElem?_eq_some_iff] at e9
              refine .inl ⟨rfl, ?_⟩
              clear hs hd hx
              go_simp
              exact ⟨Ext.refl _ _, rfl⟩
            · intro a' w' hx hs hd
              obtain ⟨y, rfl⟩ := hx.ew
              have e48 : a'.tmps[48]?.getD undef = _ := hd 0 48 rfl rfl
              refine .inl ⟨rfl, ?_⟩
              clear hs hd hx
              go_simp
              exact ⟨Ext.refl _ _, rfl⟩
            · intro a' w' hx hs hd
              obtain ⟨y, rfl⟩ := hx.ew
              have e49 : a'.tmps[49]?.getD undef = _ := hd 1 49 rfl rfl
              refine .inl ⟨rfl, ?_⟩
              clear hs hd hx
              go_simp
              exact ⟨Ext.refl _ _, rfl⟩
            · intro a' w' hx hs hd
              obtain ⟨y, rfl⟩ := hx.ew
              have e50 : a'.tmps[50]?.getD undef = _ := hd 2 50 rfl rfl
              refine .inl ⟨rfl, ?_⟩
              clear hs hd hx
              go_simp
              exact ⟨Ext.refl _ _, rfl⟩
            · intro a' w' hx hs hd
              obtain ⟨y, rfl⟩ := hx.ew
              have e9 : a'.tmps[9]?.getD undef = _ := hs 9 rfl
              simp only [List.getElem?_toArray, List.getElem?_cons_succ, List.getElem?_cons_zero, Option.getD_some, Array.getElem?_eq_some_iff] at e9
              refine .inl ⟨rfl, ?_⟩
              clear hs hd hx
              go_simp
              exact ⟨Ext.refl _ _, rfl⟩
            · intro a' w' hx hs hd
              obtain ⟨y, rfl⟩ := hx.ew
              have e52 : a'.tmps[52]?.getD undef = _ := hd 4 52 rfl rfl
              refine .inl ⟨rfl, ?_⟩
              clear hs hd hx
              go_simp
              exact ⟨Ext.refl _ _, rfl⟩
            · intro a' w' hx hs hd
              obtain ⟨y, rfl⟩ := hx.ew
              have e53 : a'.tmps[53]?.getD undef = _ := hd 5 53 rfl rfl
              refine .inl ⟨rfl, ?_⟩
              clear hs hd hx
              go_simp
              exact ⟨Ext.refl _ _, rfl⟩
            · intro a' w' hx hs hd
              obtain ⟨y, rfl⟩ := hx.ew
              have e6 : a'.tmps[6]?.getD undef = _ := hs 6 rfl
              simp only [List.getElem?_toArray, List.getElem?_cons_succ, List.getElem?_cons_zero, Option.getD_some, Array.getElem?_eq_some_iff] at e6
              have e51 : a'.tmps[51]?.getD undef = _ := hd 3 51 rfl rfl
              refine .inl ⟨rfl, ?_⟩
              clear hs hd hx
              go_simp
              rw [if_pos (by omega)]; exact ⟨Ext.refl _ _, rfl⟩
          case' q4 =>
            intro vs w' hx hRR
            obtain ⟨x8, rfl⟩ := hx.ew
            have q0 : vs 0 = _ := hRR 0 (by decide)
            have q1 : vs 1 = _ := hRR 1 (by decide)
            have q2 : vs 2 = _ := hRR 2 (by decide)
            have q3 : vs 3 = _ := hRR 3 (by decide)
            have q4 : vs 4 = _ := hRR 4 (by decide)
            have q5 : vs 5 = _ := hRR 5 (by decide)
            have q6 : vs 6 = _ := hRR 6 (by decide)
            have q7 : vs 7 = _ := hRR 7 (by decide)
            clear hRR hx
            simp only [putAll, List.take_succ_cons, List.take_zero, List.drop_succ_cons, List.drop_zero, Act.put, List.setIfInBounds_toArray, List.set_cons_zero, List.set_cons_succ, Nat.reduceAdd, Nat.zero_add]
            simp only [q0, q1, q2, q3, q4, q5, q6, q7]
            clear q0 q1 q2 q3 q4 q5 q6 q7 vs
          have HB6 := Go.Lib.hid (HB5.out.extN (by (repeat (first | with_reducible exact Ext.refl _ _ | assumption | with_reducible refine Ext.upN ?_ | with_reducible refine Ext.alloc ?_ _ | with_reducible refine Ext.upA (by assumption) ?_ | with_reducible refine Ext.upW ?_ | with_reducible refine Ext.drew ?_ | with_reducible refine Ext.drewN ?_ _ | with_reducible refine Ext.upF ?_ | with_reducible refine Ext.upFF (by first | omega | simp) ?_ | with_reducible refine Ext.setCellsF _ _ _ (by first | omega | simp) ?_ | with_reducible refine Ext.setCellF _ _ _ (by first | omega | simp) ?_ | with_reducible refine Ext.upFN (by first | omega | simp) ?_ | with_reducible refine Ext.up1F (by first | omega | simp) ?_ | with_reducible refine Ext.up1N (by first | omega | simp) ?_ | with_reducible refine Ext.setCell ?_ (.inr (by first | omega | simp)) _ | refine Ext.alloc ?_ _ | refine Ext.setCellF _ _ _ (by first | omega | simp) ?_ | refine Ext.setCell ?_ (.inr (by first | omega | simp)) _)) : Ext Non x5.on x8.on))
          obtain ⟨vo, hvo⟩ : ∃ vo, vo = tabP (some ⟨ab, ao, none⟩) pm sn := ⟨_, rfl⟩
          have y6 : x8.on.cell? ⟨kt, sn, none⟩ = some vo := by rw [hvo]; exact HB6.out.cell (tabC_get _ _ (by omega))
          have f6 : x8.on.frozen? ⟨kt, sn, none⟩ = false := froz_of_heap HB6.out.h
          clear hvo
          go_upto_region 15 with fail
          have HB7 := Go.Lib.hid (HB6.out.set (j := sn) (.pointer (some ⟨ab, ao + i * 7 + 1, none⟩)))
          rw [tabC_set _ _ (by omega) i _ (by unfold tabP; rw [putP_same]; rfl)] at HB7
          have hkl : x3.on.heap.size ≤ kt := by rw [HKT.out]; exact Nat.le_refl _
          have X7 : Ext Non x3.on (x8.on.setCell ⟨kt, sn, none⟩ (.pointer (some ⟨ab, ao + i * 7 + 1, none⟩))) := by (repeat (first | with_reducible exact Ext.refl _ _ | assumption | with_reducible refine Ext.upN ?_ | with_reducible refine Ext.alloc ?_ _ | with_reducible refine Ext.upA (by assumption) ?_ | with_reducible refine Ext.upW ?_ | with_reducible refine Ext.drew ?_ | with_reducible refine Ext.drewN ?_ _ | with_reducible refine Ext.upF ?_ | with_reducible refine Ext.upFF (by first | omega | simp) ?_ | with_reducible refine Ext.setCellsF _ _ _ (by first | omega | simp) ?_ | with_reducible refine Ext.setCellF _ _ _ (by first | omega | simp) ?_ | with_reducible refine Ext.upFN (by first | omega | simp) ?_ | with_reducible refine Ext.up1F (by first | omega | simp) ?_ | with_reducible refine Ext.up1N (by first | omega | simp) ?_ | with_reducible refine Ext.setCell ?_ (.inr (by first | omega | simp)) _ | refine Ext.alloc ?_ _ | refine Ext.setCellF _ _ _ (by first | omega | simp) ?_ | refine Ext.setCell ?_ (.inr (by first | omega | simp)) _))
          obtain ⟨x7, hx7⟩ := X7.ew
          rw [hx7] at HB7 ⊢
          clear hx7 X7 HB6 y6 f6 HB5
          have hmx : max (mostE (l.take i)) sn ≤ 244 := by omega
          go_wp2_with fail
          all_goals
            go_roundg (l.length - (i + 1))
            case measure => have := HN.out; omega
            case rel => exact ⟨i + 1, _, _, ⟨_, by (repeat (first | with_reducible exact Ext.refl _ _ | assumption | with_reducible refine Ext.upN ?_ | with_reducible refine Ext.alloc ?_ _ | with_reducible refine Ext.upA (by assumption) ?_ | with_reducible refine Ext.upW ?_ | with_reducible refine Ext.drew ?_ | with_reducible refine Ext.drewN ?_ _ | with_reducible refine Ext.upF ?_ | with_reducible refine Ext.upFF (by first | omega | simp) ?_ | with_reducible refine Ext.setCellsF _ _ _ (by first | omega | simp) ?_ | with_reducible refine Ext.setCellF _ _ _ (by first | omega | simp) ?_ | with_reducible refine Ext.upFN (by first | omega | simp) ?_ | with_reducible refine Ext.up1F (by first | omega | simp) ?_ | with_reducible refine Ext.up1N (by first | omega | simp) ?_ | with_reducible refine Ext.setCell ?_ (.inr (by first | omega | simp)) _ | refine Ext.alloc ?_ _ | refine Ext.setCellF _ _ _ (by first | omega | simp) ?_ | refine Ext.setCell ?_ (.inr (by first | omega | simp)) _))⟩, hlt, rfl, by go_num, by rw [HM.out]; first | rw [Nat.max_eq_left (by omega)] | rw [Nat.max_eq_right (by omega)], rfl, HB7, HP, HG⟩
      · obtain rfl : i = l.length := by omega
        have hf := HF.out
        rw [List.drop_length] at hf
        rw [List.take_length] at hml
        have HMG : Hid (mergeE l = (if fullT m (mostE l) = true then 0 else 8)) := Go.Lib.hid (by unfold mergeE; rw [if_pos HC.out, hf]; rfl)
        have HMS : Hid (fullT m (mostE l) = true → mergeL l = listT m (mostE l)) := Go.Lib.hid (fun e => by
          have e0 : mergeE l = 0 := by rw [HMG.out, if_pos e]
          unfold mergeL
          rw [if_pos e0, hf]; rfl)
        have HMN : Hid (fullT m (mostE l) = false → mergeE l = 8 ∧ mergeL l = []) := Go.Lib.hid (fun e => by
          have e0 : mergeE l = 8 := by rw [HMG.out, if_neg (by rw [e]; simp)]
          exact ⟨e0, by unfold mergeL; rw [if_neg (by rw [e0]; decide)]⟩)
        clear hf HF
        rw [List.take_length]
        generalize mostE l = mo at *
        have hw : IntKind.i64.wrap ((mo : Int) + 1) = ((mo + 1 : Nat) : Int) := (IntWalk.i64_in _ (by omega)).trans (by omega)
        have hsl := slice_tab kt mo (by omega)
        go_wp2_with (refine wpList_make_ew rfl _ _ 31 rfl 37 6 56 _ Try.underlying31 info_req9 (by omega) mo rfl rfl (by omega) (fun W1 hO => ?_); have HO1 := Go.Lib.hid hO; clear hO)
        have ROW0 : Hid (W1.on.ownsRow z.on.heap.size 37 6 (.slice (some ⟨z.on.heap.size, 0, none⟩) 0 mo) (listT m 0).length ((listT m 0).flatMap Req.cells)) := HO1
        clear HO1
        go_loopg [11, 13, 69] mo (fun n ov pv iv wr => ∃ (v : Value) (j : Nat) (u : EW Non z.on), v = ov ∧ j ≤ mo ∧ n = mo - j ∧ iv = .int .i64 j ∧ wr = u.on ∧ Hid (wr.ownsRow z.on.heap.size 37 6 v (listT m j).length ((listT m j).flatMap Req.cells)) ∧ Hid (fullT m j = true))
        case atStart => exact ⟨_, 0, ⟨_, by (repeat (first | with_reducible exact Ext.refl _ _ | assumption | with_reducible refine Ext.upN ?_ | with_reducible refine Ext.alloc ?_ _ | with_reducible refine Ext.upA (by assumption) ?_ | with_reducible refine Ext.upW ?_ | with_reducible refine Ext.drew ?_ | with_reducible refine Ext.drewN ?_ _ | with_reducible refine Ext.upF ?_ | with_reducible refine Ext.upFF (by first | omega | simp) ?_ | with_reducible refine Ext.setCellsF _ _ _ (by first | omega | simp) ?_ | with_reducible refine Ext.setCellF _ _ _ (by first | omega | simp) ?_ | with_reducible refine Ext.upFN (by first | omega | simp) ?_ | with_reducible refine Ext.up1F (by first | omega | simp) ?_ | with_reducible refine Ext.up1N (by first | omega | simp) ?_ | with_reducible refine Ext.setCell ?_ (.inr (by first | omega | simp)) _ | refine Ext.alloc ?_ _ | refine Ext.setCellF _ _ _ (by first | omega | simp) ?_ | refine Ext.setCell ?_ (.inr (by first | omega | simp)) _))⟩, rfl, Nat.zero_le _, rfl, rfl, rfl, ROW0, Go.Lib.hid rfl⟩
        case round =>
          clear ROW0
          obtain ⟨v, j, u, rfl, hj, hjn, rfl, rfl, HO, HFU⟩ := hrel
          have HJ := Go.Lib.hid hjn; clear hjn
          by_cases hjl : j < mo
          · rcases HT.out (j + 1) with ⟨p1, p2⟩ | ⟨i, hi2, p1, p2, p3⟩
            · have y0 : z.on.cell? ⟨kt, 1 + j, none⟩ = some (.pointer none) := HB.out.cell ((tabC_get _ _ (by omega)).trans (by unfold tabP; rw [show 1 + j = j + 1 by omega, p1]))
              have H2 := Go.Lib.hid (HMN.out (full_not m hjl p2))
              clear p1 p2
              go_wp2
              go_returns
              have e1 := H2.out.1
              refine ⟨.slice none 0 0, by rw [e1]; rfl, ?_, by (repeat (first | with_reducible exact Ext.refl _ _ | assumption | with_reducible refine Ext.upN ?_ | with_reducible refine Ext.alloc ?_ _ | with_reducible refine Ext.upA (by assumption) ?_ | with_reducible refine Ext.upW ?_ | with_reducible refine Ext.drew ?_ | with_reducible refine Ext.drewN ?_ _ | with_reducible refine Ext.upF ?_ | with_reducible refine Ext.upFF (by first | omega | simp) ?_ | with_reducible refine Ext.setCellsF _ _ _ (by first | omega | simp) ?_ | with_reducible refine Ext.setCellF _ _ _ (by first | omega | simp) ?_ | with_reducible refine Ext.upFN (by first | omega | simp) ?_ | with_reducible refine Ext.up1F (by first | omega | simp) ?_ | with_reducible refine Ext.up1N (by first | omega | simp) ?_ | with_reducible refine Ext.setCell ?_ (.inr (by first | omega | simp)) _ | refine Ext.alloc ?_ _ | refine Ext.setCellF _ _ _ (by first | omega | simp) ?_ | refine Ext.setCell ?_ (.inr (by first | omega | simp)) _))⟩
              rw [H2.out.2]
              exact World.ownsRow_nil _ _ _ _
            · obtain ⟨ab, ao, rfl, hab, hc⟩ := HE2.out.at_ i hi2
              have y0 : z.on.cell? ⟨kt, 1 + j, none⟩ = some (.pointer (some ⟨ab, ao + i * 7 + 1, none⟩)) := HB.out.cell ((tabC_get _ _ (by omega)).trans (by unfold tabP; rw [show 1 + j = j + 1 by omega, p1]; rfl))
              have HL := Go.Lib.hid (list_succ m j p3)
              have HF2 : Hid (fullT m (j + 1) = true) := Go.Lib.hid (by rw [full_succ, HFU.out, p3]; rfl)
              have hll := list_le m j
              have hl2 : (listT m (j + 1)).length = (listT m j).length + 1 := by rw [HL.out, List.length_append]; rfl
              have HL2 := Go.Lib.hid hl2
              have HFM : Hid ((listT m (j + 1)).flatMap Req.cells = (listT m j).flatMap Req.cells ++ (l[i]'hi2).req.cells) := Go.Lib.hid (by rw [HL.out, List.flatMap_append, List.flatMap_cons, List.flatMap_nil, List.append_nil])
              clear hl2 HL p1 p2 p3
              generalize l[i]'hi2 = o2 at *
              obtain ⟨sl2, ⟨c2, st2, ⟨k2, key2, xx2, id2⟩⟩⟩ := o2
              have v1 : x3.on.cell? ⟨ab, ao + i * 7 + 1, none⟩ = some (.int .i64 c2) := hc 1 _ rfl
              have v2 : x3.on.cell? ⟨ab, ao + i * 7 + 2, none⟩ = some (.int .i64 st2) := hc 2 _ rfl
              have v3 : x3.on.cell? ⟨ab, ao + i * 7 + 3, none⟩ = some (.int .i64 k2) := hc 3 _ rfl
              have v4 : x3.on.cell? ⟨ab, ao + i * 7 + 4, none⟩ = some (.string key2) := hc 4 _ rfl
              have v5 : x3.on.cell? ⟨ab, ao + i * 7 + 5, none⟩ = some (.float .f64 xx2) := hc 5 _ rfl
              have v6 : x3.on.cell? ⟨ab, ao + i * 7 + 6, none⟩ = some (.int .i64 id2) := hc 6 _ rfl
              clear hc
              generalize (listT m j).length = ll at *
              have hzz : z.on.heap.size ≤ u.on.heap.size := u.ext.size
              go_wp2_with (at_builtin; refine wpList_append_rowB rfl _ _ 31 rfl z.on.heap.size 37 6 56 _ Try.underlying31 info_req9 (by rfl) (by omega) v ll _ rfl (ownR_extN HO.out (by (repeat (first | with_reducible exact Ext.refl _ _ | assumption | with_reducible refine Ext.upN ?_ | with_reducible refine Ext.alloc ?_ _ | with_reducible refine Ext.upA (by assumption) ?_ | with_reducible refine Ext.upW ?_ | with_reducible refine Ext.drew ?_ | with_reducible refine Ext.drewN ?_ _ | with_reducible refine Ext.upF ?_ | with_reducible refine Ext.upFF (by first | omega | simp) ?_ | with_reducible refine Ext.setCellsF _ _ _ (by first | omega | simp) ?_ | with_reducible refine Ext.setCellF _ _ _ (by first | omega | simp) ?_ | with_reducible refine Ext.upFN (by first | omega | simp) ?_ | with_reducible refine Ext.up1F (by first | omega | simp) ?_ | with_reducible refine Ext.up1N (by first | omega | simp) ?_ | with_reducible refine Ext.setCell ?_ (.inr (by first | omega | simp)) _ | refine Ext.alloc ?_ _ | refine Ext.setCellF _ _ _ (by first | omega | simp) ?_ | refine Ext.setCell ?_ (.inr (by first | omega | simp)) _)))) u.on.heap.size [.int .i64 c2, .int .i64 st2, .int .i64 k2, .string key2, .float .f64 xx2, .int .i64 id2] 37 rfl (Bx.newAt _ _ _ _ rfl) rfl (by simp [Value.oneCell']) (by omega) (by omega) (by simp; omega) (fun v' W2 hO hrow => ?_); have HO2 := Go.Lib.hid hO; clear hO hrow)
              have XA : Ext Non u.on (u.on.alloc (.cells [.int .i64 c2, .int .i64 st2, .int .i64 k2, .string key2, .float .f64 xx2, .int .i64 id2].toArray 37)) := (Ext.refl _ _).alloc _
              have XF : Ext Non z.on W2.on := (u.ext.trans XA).step W2.ext (fun k hk h => by have := (own_row HO.out k h).1; omega)
              go_roundg (mo - (j + 1))
              case measure => have := HJ.out; omega
              case rel => exact ⟨_, j + 1, ⟨_, XF⟩, rfl, hjl, rfl, by go_num, rfl, Go.Lib.hid (by rw [HFM.out, HL2.out]; exact HO2.out), HF2⟩
          · obtain rfl : j = mo := by omega
            have e0 := HMG.out
            rw [if_pos HFU.out] at e0
            have E0 := Go.Lib.hid e0
            have E1 := Go.Lib.hid (HMS.out HFU.out)
            clear e0
            go_wp2
            go_returns
            have e0 := E0.out
            refine ⟨v, by rw [e0]; rfl, ?_, by (repeat (first | with_reducible exact Ext.refl _ _ | assumption | with_reducible refine Ext.upN ?_ | with_reducible refine Ext.alloc ?_ _ | with_reducible refine Ext.upA (by assumption) ?_ | with_reducible refine Ext.upW ?_ | with_reducible refine Ext.drew ?_ | with_reducible refine Ext.drewN ?_ _ | with_reducible refine Ext.upF ?_ | with_reducible refine Ext.upFF (by first | omega | simp) ?_ | with_reducible refine Ext.setCellsF _ _ _ (by first | omega | simp) ?_ | with_reducible refine Ext.setCellF _ _ _ (by first | omega | simp) ?_ | with_reducible refine Ext.upFN (by first | omega | simp) ?_ | with_reducible refine Ext.up1F (by first | omega | simp) ?_ | with_reducible refine Ext.up1N (by first | omega | simp) ?_ | with_reducible refine Ext.setCell ?_ (.inr (by first | omega | simp)) _ | refine Ext.alloc ?_ _ | refine Ext.setCellF _ _ _ (by first | omega | simp) ?_ | refine Ext.setCell ?_ (.inr (by first | omega | simp)) _))⟩
            rw [E1.out]
            exact ownR_base HO.out (by have h1 := z.ext.size; have h2 := x3.ext.size; omega)
  · have HC := Go.Lib.hid hc
    have E1 : Hid (mergeE l = chkE l ∧ mergeL l = []) := Go.Lib.hid (by
      have e : mergeE l = chkE l := by unfold mergeE; rw [if_neg hc]
      exact ⟨e, by unfold mergeL; rw [if_neg (by rw [e]; exact hc)]⟩)
    have hne : (chkE l != 0) = true := by simpa using hc
    have e1 := E1.out.1
    clear hc
    go_wp2
    go_returns
    refine ⟨.slice none 0 0, by rw [e1]; rfl, ?_, by (repeat (first | with_reducible exact Ext.refl _ _ | assumption | with_reducible refine Ext.upN ?_ | with_reducible refine Ext.alloc ?_ _ | with_reducible refine Ext.upA (by assumption) ?_ | with_reducible refine Ext.upW ?_ | with_reducible refine Ext.drew ?_ | with_reducible refine Ext.drewN ?_ _ | with_reducible refine Ext.upF ?_ | with_reducible refine Ext.upFF (by first | omega | simp) ?_ | with_reducible refine Ext.setCellsF _ _ _ (by first | omega | simp) ?_ | with_reducible refine Ext.setCellF _ _ _ (by first | omega | simp) ?_ | with_reducible refine Ext.upFN (by first | omega | simp) ?_ | with_reducible refine Ext.up1F (by first | omega | simp) ?_ | with_reducible refine Ext.up1N (by first | omega | simp) ?_ | with_reducible refine Ext.setCell ?_ (.inr (by first | omega | simp)) _ | refine Ext.alloc ?_ _ | refine Ext.setCellF _ _ _ (by first | omega | simp) ?_ | refine Ext.setCell ?_ (.inr (by first | omega | simp)) _))⟩
    rw [E1.out.2]
    exact World.ownsRow_nil _ _ _ _
end Go.Proofs.Ytekbonciafbjiaa
