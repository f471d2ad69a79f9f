/- Joined texts: Rep25, Rep28, Rep29, Rep30, Rep31, Law18. What each proves stands at its head; no conditions beside those in its theorems. -/
import Derived.Laws.CopyOwn
import Derived.Deep.OwnRows
import Derived.Deep.RegionLaw
import Derived.Recover
import Derived.Test.YtflpkoafebjfdaaGreatProg
import Derived.Shelf.SlIter.Nil
import Derived.Shelf.SortM.Plain
import Derived.Shelf.SortM.SortNone
import Derived.Ground.GgzProg
import Derived.Ground.SlgmProg
import Derived.Test.YtflpkoafebjfdaaGreatPjBR
import Derived.Test.YtflpkoafebjfdaaGreatPjBT
/- Contracts of layer 18 (replica): goOver. -/
namespace Go.Proofs.YtflpkoafebjfdaaGreat
open Go.RowKit Go.Lib F64
set_option linter.unusedSimpArgs false
set_option linter.unusedVariables false
attribute [local go_sem] run_store_float
attribute [local go_sem low] EW.cellN EW.frozN alloc_cell_or alloc_froz_or
attribute [local go_sem] relAt relUpon
/-- A ledger in new blocks gets its colour. -/
theorem BkW.fresh {w w1 : World} {col : Nat → Nat} {nb nm : Nat} {lg : Lg} (x : Ext Non w w1) (hnew : ∀ k, w.heap.size ≤ k → col k = 0) (h : Y.LD (colS w col) w1 nb nm lg) (hb : w.heap.size ≤ nb) (hm : w.heap.size ≤ nm) : BkW w1 (colN w col 6 (fun k => k = nb ∨ k = nm)) nb nm lg := by
  have hlt := h.lt; have hml := h.mp.lt
  have key : ∀ k, colS w1 (colN w col 6 (fun k => k = nb ∨ k = nm)) k → colS w col k ∨ k = nb ∨ k = nm := fun k ⟨h1, h2⟩ => by
    by_cases hk : k < w.heap.size
    · rw [colN_x w col 6 _ k hk] at h2; exact .inl ⟨hk, h2⟩
    · refine .inr (Classical.byContradiction fun q => h2 (colN_no (by omega) q))
  have noZ : ∀ a, Y.intZ (colS w col) w1 a → Y.intZ (colS w1 (colN w col 6 (fun k => k = nb ∨ k = nm))) w1 a := fun a ha k o e => by
    obtain ⟨h1, vs, fr, h2⟩ := ha k o e
    refine ⟨fun z => ?_, vs, fr, h2⟩
    rcases key k z with z | rfl | rfl
    · exact h1 z
    · obtain ⟨_, _, _, _, hh, _⟩ := h.ex
      rw [hh] at h2
      injection h2 with h2; injection h2 with _ h2 _; exact absurd h2 (by decide)
    · obtain ⟨es, c, hh, _⟩ := h.mp.ex
      rw [hh] at h2
      injection h2 with h2; cases h2
  obtain ⟨a1, c1, a2, c2, hh, i1, i2, z1, z2⟩ := h.ex
  exact ⟨⟨⟨a1, c1, a2, c2, hh, i1, i2, noZ _ z1, noZ _ z2⟩, h.mp, fun k hk => hk.1⟩, colN_new hb (.inl rfl), colN_new hm (.inr rfl)⟩
end Go.Proofs.YtflpkoafebjfdaaGreat

/- Contracts of layer 18 (replica): deed, answer. -/
namespace Go.Proofs.YtflpkoafebjfdaaGreat
open Go.RowKit Go.Lib F64
set_option linter.unusedSimpArgs false
set_option linter.unusedVariables false
attribute [local go_sem] run_store_float
attribute [local go_sem low] EW.cellN EW.frozN alloc_cell_or alloc_froz_or
attribute [local go_sem] relAt relUpon
/-- A function or none. -/
def fnV : Option Nat → Value
  | some n => .func (.func n) #[] #[]
  | none => .nilFunc
def fnE : MEnc Int (Option Nat) := ⟨.int .i64, .int .i64, fnV, fun _ => rfl, fun a b h => by injection h⟩
/-- What each message does. -/
def deedL : List (Int × Option Nat) := [(1, some 120), (2, some 121), (3, some 122), (4, some 123), (5, some 124), (6, some 125), (7, some 126), (9, some 127), (10, some 128)]
def deedO (kind : Int) : Option Nat := (getG deedL kind).getD none
theorem MapG.lookup1 {K V : Type} {E : MEnc K V} {P : Program} {w : World} {mty kt et : TypeId} {m : Nat} {ks : List (K × V)} [DecidableEq K] {z : V} (hm : P.underlying mty = some (.map kt et)) (hd : P.underlying kt = some E.d) (hz : (zeroValue et).run P w = .ok (E.ve z) w) (h : MapG E w m ks) (k : K) :
    (Instr.lookup mty (.map (some m)) (E.ke k) false).run P w = .ok (E.ve ((getG ks k).getD z)) w := by
  have H := h
  obtain ⟨es, c, hb, st, e⟩ := h.ex
  rcases H.find k e with ⟨hg, h1, h2⟩ | ⟨j, x, v, hg, hj, h1, h2, h3, hv⟩
  · rw [hg]
    simp [Instr.lookup, run_underlying hm, Go.MapKept.run_getObj_map hb, Go.MapKept.run_checkKey hd (d := E.d) (k := E.ke k) (E.key k), Go.MapKept.run_findKey hd h1, hz, Result.andThen]
  · rw [hg]
    simp [Instr.lookup, run_underlying hm, Go.MapKept.run_getObj_map hb, Go.MapKept.run_checkKey hd (d := E.d) (k := E.ke k) (E.key k), Go.MapKept.run_findKey hd h1, hv, Result.andThen]
theorem zero_fn (w : World) : (zeroValue 134).run Tryz.prog w = .ok (fnE.ve none) w := by kernel_rfl
set_option maxHeartbeats 1000000 in
set_option maxRecDepth 100000 in
theorem rep_deed (kind : Int) (w : World) : Calls Tryz.prog 69 #[.int .i64 kind] w fun e w' => e = .returned (fnV (deedO kind)) ∧ Ext Non w w' := by
  have M0 : MapG fnE (w.alloc (.map #[] 0)) w.heap.size [] := MapG.empty (heap_alloc_new _ _)
  have up := fun (W : World) (ks : List (Int × Option Nat)) (h : MapG fnE W w.heap.size ks) (k : Int) (f : Option Nat) => MapG.update (P := Tryz.prog) (E := fnE) Tryz.underlying212 Tryz.underlying3 h k f
  obtain ⟨w1, h1, M1, x1⟩ := up _ _ M0 1 (some 120)
  have h1' : (Instr.mapUpdate 212 (.map (some w.heap.size)) (.int .i64 1) (.func (.func 120) #[] #[])).run Tryz.prog (w.alloc (.map #[] 0)) = .ok () w1 := h1
  obtain ⟨w2, h2, M2, x2⟩ := up _ _ M1 2 (some 121)
  have h2' : (Instr.mapUpdate 212 (.map (some w.heap.size)) (.int .i64 2) (.func (.func 121) #[] #[])).run Tryz.prog w1 = .ok () w2 := h2
  obtain ⟨w3, h3, M3, x3⟩ := up _ _ M2 3 (some 122)
  have h3' : (Instr.mapUpdate 212 (.map (some w.heap.size)) (.int .i64 3) (.func (.func 122) #[] #[])).run Tryz.prog w2 = .ok () w3 := h3
  obtain ⟨w4, h4, M4, x4⟩ := up _ _ M3 4 (some 123)
  have h4' : (Instr.mapUpdate 212 (.map (some w.heap.size)) (.int .i64 4) (.func (.func 123) #[] #[])).run Tryz.prog w3 = .ok () w4 := h4
  obtain ⟨w5, h5, M5, x5⟩ := up _ _ M4 5 (some 124)
  have h5' : (Instr.mapUpdate 212 (.map (some w.heap.size)) (.int .i64 5) (.func (.func 124) #[] #[])).run Tryz.prog w4 = .ok () w5 := h5
  obtain ⟨w6, h6, M6, x6⟩ := up _ _ M5 6 (some 125)
  have h6' : (Instr.mapUpdate 212 (.map (some w.heap.size)) (.int .i64 6) (.func (.func 125) #[] #[])).run Tryz.prog w5 = .ok () w6 := h6
  obtain ⟨w7, h7, M7, x7⟩ := up _ _ M6 7 (some 126)
  have h7' : (Instr.mapUpdate 212 (.map (some w.heap.size)) (.int .i64 7) (.func (.func 126) #[] #[])).run Tryz.prog w6 = .ok () w7 := h7
  obtain ⟨w8, h8, M8, x8⟩ := up _ _ M7 9 (some 127)
  have h8' : (Instr.mapUpdate 212 (.map (some w.heap.size)) (.int .i64 9) (.func (.func 127) #[] #[])).run Tryz.prog w7 = .ok () w8 := h8
  obtain ⟨w9, h9, M9, x9⟩ := up _ _ M8 10 (some 128)
  have h9' : (Instr.mapUpdate 212 (.map (some w.heap.size)) (.int .i64 10) (.func (.func 128) #[] #[])).run Tryz.prog w8 = .ok () w9 := h9
  have hL : setG (setG (setG (setG (setG (setG (setG (setG (setG ([] : List (Int × Option Nat)) 1 (some 120)) 2 (some 121)) 3 (some 122)) 4 (some 123)) 5 (some 124)) 6 (some 125)) 7 (some 126)) 9 (some 127)) 10 (some 128) = deedL := by decide
  rw [hL] at M9
  have hlk : (Instr.lookup 212 (.map (some w.heap.size)) (.int .i64 kind) false).run Tryz.prog w9 = .ok (fnV (deedO kind)) w9 := MapG.lookup1 (E := fnE) Tryz.underlying212 Tryz.underlying3 (zero_fn _) M9 kind
  have XX : Ext (One w.heap.size) (w.alloc (.map #[] 0)) w9 := x1.trans (x2.trans (x3.trans (x4.trans (x5.trans (x6.trans (x7.trans (x8.trans x9)))))))
  have HX : Hid (Ext Non w w9) := Go.Lib.hid (((Ext.refl Non w).alloc _).step XX (fun i hi q => by have q : i = w.heap.size := q; omega))
  have hmm := @run_makeMap Tryz.prog
  clear up M0 M1 M2 M3 M4 M5 M6 M7 M8 M9 x1 x2 x3 x4 x5 x6 x7 x8 x9 h1 h2 h3 h4 h5 h6 h7 h8 h9 hL XX
  generalize fnV (deedO kind) = v at *
  go_enter Tryz.func69, Tryz.ntmps69
  go_wp2
  go_returns
  exact ⟨rfl, HX.out⟩
section
variable {b : Nat} {col : Nat → Nat} {A : RA} {g : Rp}
/-- What was gathered is handed out. -/
theorem RepX.cleared {w : World} (h : RepW w b col A g) : RepW (w.setCell ⟨b, 86, none⟩ (.slice none 0 0)) b col { A with ov := .slice none 0 0 } (answerG g) ∧ Ext (One b) w (w.setCell ⟨b, 86, none⟩ (.slice none 0 0)) := by
  have x : Ext (One b) w (w.setCell ⟨b, 86, none⟩ (.slice none 0 0)) := (Ext.refl _ _).set1 _
  have hc1 : ∀ k, One b k → col k = 1 := fun k s => by have s : k = b := s; rw [s]; exact h.c1
  have f := h.frame (ex' := fun i => i = 1 ∨ i = 11) (fun _ e => e.elim) x (fun k hk s => by rw [hc1 k s]; exact ⟨by decide, .inl rfl⟩) (ColX.refl _ _) (fun k hk => h.new k (Nat.le_trans x.size hk))
  have B := (h.row id).set (j := 86) (.slice none 0 0)
  have hr : (rowRp A g).set 86 (.slice none 0 0) = rowRp { A with ov := .slice none 0 0 } (answerG g) := by rw [show (86 : Nat) = 77 + 9 from rfl, rowRp_set]; rfl
  rw [hr] at B
  have no : ∀ {i : Nat}, i ≠ 1 → i ≠ 11 → ¬ (i = 1 ∨ i = 11) := fun e1 e2 e => e.elim e1 e2
  exact ⟨⟨fun _ => B, fun _ => f.trm (no (by decide) (by decide)), fun _ => f.log (no (by decide) (by decide)), fun _ => f.tal (no (by decide) (by decide)), fun _ => f.chs (no (by decide) (by decide)), fun _ => f.book (no (by decide) (by decide)), fun _ => f.chn (no (by decide) (by decide)), fun _ => f.tmr (no (by decide) (by decide)),
    fun _ => f.says (no (by decide) (by decide)), fun _ => f.hist (no (by decide) (by decide)), fun _ => OwnC.nil _ _ _ _ _ _, f.ss, f.sm, f.sl, f.conf, f.c1, f.b1, f.c2, f.b2, f.c8, f.b8, f.new⟩, x⟩
set_option maxHeartbeats 1000000 in
set_option maxRecDepth 100000 in
theorem rep_answer (w : World) (h : RepW w b col A g) : Calls Tryz.prog 70 #[.pointer (some ⟨b, 0, none⟩)] w fun e w' =>
    ∃ v, e = .returned v ∧ RepW w' b col { A with ov := .slice none 0 0 } (answerG g) ∧ OwnC w' col 11 54 19 v (PkR (hide col w')) (answerL g) ∧ Ext (One b) w w' := by
  obtain ⟨HC, x⟩ := h.cleared
  have hw := (h.out id).ext x (fun k hk q => by have q : k = b := q; rw [q, h.c1]; decide) (ColX.refl _ _) (PkR.up (hide_ext (x.mono (T := Colo col) (fun k _ q => by have q : k = b := q; show col k ≠ 0; rw [q, h.c1]; decide)) (ColX.refl _ _)))
  have HW := Go.Lib.hid (And.intro HC (And.intro hw x))
  have q86 := h.rout id; have qf := h.rf id 86
  have hh := HC.rhal id
  have hh' : (w.setCell ⟨b, 86, none⟩ (.slice none 0 0)).cell? ⟨b, 84, none⟩ = some (.bool g.halted) := hh
  have DL : Hid (answerL g = if g.halted = true then [] else g.out) := Go.Lib.hid rfl
  obtain ⟨oa, oc, ho, -⟩ := (h.out id).slice
  generalize A.ov = ov at *
  subst ho
  have HH := Go.Lib.hid hh'
  clear HC x hw hh h hh'
  go_enter Tryz.func70, Tryz.ntmps70
  go_upto_region 3 with fail
  have hh' := HH.out
  clear q86 qf
  generalize World.setCell w _ _ = w1 at *
  cases hg : g.halted
  · rw [hg] at hh'
    go_wp2
    go_returns
    exact ⟨_, rfl, HW.out.1, by rw [DL.out, if_neg (by rw [hg]; simp)]; exact HW.out.2.1, HW.out.2.2⟩
  · rw [hg] at hh'
    go_wp2
    go_returns
    exact ⟨_, rfl, HW.out.1, by rw [DL.out, if_pos hg]; exact OwnC.nil _ _ _ _ _ _, HW.out.2.2⟩
end
end Go.Proofs.YtflpkoafebjfdaaGreat

/- Contracts of layer 18 (replica): Handle. -/
namespace Go.Proofs.YtflpkoafebjfdaaGreat
open Go.RowKit Go.Lib F64
set_option linter.unusedSimpArgs false
set_option linter.unusedVariables false
attribute [local go_sem] run_store_float
attribute [local go_sem low] EW.cellN EW.frozN alloc_cell_or alloc_froz_or
attribute [local go_sem] relAt relUpon
/-- What a call that answers packets leaves. -/
structure HPost (w : World) (b : Nat) (col : Nat → Nat) (A : RA) (g : Rp) (w' : World) (g' : Rp) (v : Value) (l : List Pk) : Prop where
  ex : ∃ col' A', RepW w' b col' A' g' ∧ ColX w col col' ∧ ((g'.begun = g.begun ∧ A'.bt = A.bt) ∨ (g.begun < g'.begun ∧ w.heap.size ≤ A'.bt)) ∧ OwnC w' col' 11 54 19 v (PkR (hide col' w')) l
  x : Ext (Colo col) w w'
  k : TermK col w w'
/-- What a message's function does. -/
def DeedC (m : Ms) (M : MA) (from_ : Int) : Prop := ∀ (fn : Nat) (w : World) (b : Nat) (col : Nat → Nat) (A : RA) (g : Rp), deedO m.kind = some fn → RepW w b col A g → RInv g → g.halted = false → MsW (hide col w) M m → bytesE m = 0 →
  Calls Tryz.prog fn #[.pointer (some ⟨b, 0, none⟩), .int .i64 from_, .agg (m.cells M).toArray] w fun e w' => e = .returned (.tuple #[]) ∧ RPost w b col A g w' (deedG g from_ m) ∧ RInv (answerG (deedG g from_ m))
def DeedAt (m : Ms) (M : MA) (from_ : Int) (g : Rp) : Prop := ∀ (fn : Nat) (w : World) (b : Nat) (col : Nat → Nat) (A : RA), deedO m.kind = some fn → RepW w b col A g → RInv g → g.halted = false → MsW (hide col w) M m → bytesE m = 0 →
  Calls Tryz.prog fn #[.pointer (some ⟨b, 0, none⟩), .int .i64 from_, .agg (m.cells M).toArray] w fun e w' => e = .returned (.tuple #[]) ∧ RPost w b col A g w' (deedG g from_ m) ∧ RInv (answerG (deedG g from_ m))
theorem DeedC.at {m : Ms} {M : MA} {from_ : Int} (h : DeedC m M from_) (g : Rp) : DeedAt m M from_ g := fun fn w b col A => h fn w b col A g
theorem deed_none {g : Rp} {from_ : Int} {m : Ms} (h : deedO m.kind = none) : deedG g from_ m = g := by
  have key : ∀ k ∈ ([1, 2, 3, 4, 5, 6, 7, 9, 10] : List Int), m.kind ≠ k := fun k hk e => by
    rw [e] at h
    have : ∀ k ∈ ([1, 2, 3, 4, 5, 6, 7, 9, 10] : List Int), deedO k ≠ none := by decide
    exact this k hk h
  unfold deedG
  rw [if_neg (key 1 (by decide)), if_neg (key 2 (by decide)), if_neg (key 3 (by decide)), if_neg (key 4 (by decide)), if_neg (key 5 (by decide)), if_neg (key 6 (by decide)), if_neg (key 7 (by decide)), if_neg (key 9 (by decide)), if_neg (key 10 (by decide))]
theorem deed_cases {k : Int} {fn : Nat} (h : deedO k = some fn) : fn ∈ ([120, 121, 122, 123, 124, 125, 126, 127, 128] : List Nat) := by
  unfold deedO at h
  cases hg : getG deedL k with
  | none => rw [hg] at h; cases h
  | some v =>
    rw [hg] at h
    have h : v = some fn := h
    subst h
    have key : ∀ p ∈ deedL, ∀ n, p.2 = some n → n ∈ ([120, 121, 122, 123, 124, 125, 126, 127, 128] : List Nat) := by
      intro p hp n hn
      unfold deedL at hp
      simp only [List.mem_cons, List.not_mem_nil, or_false] at hp
      rcases hp with rfl | rfl | rfl | rfl | rfl | rfl | rfl | rfl | rfl <;> (injection hn with hn; subst hn; simp)
    exact key _ (getG_mem hg) fn rfl
section
variable {b : Nat} {col : Nat → Nat} {A : RA} {g : Rp}
theorem now_inv {g : Rp} (h : RInv g) (now : Int) : RInv { g with now := now } := ⟨{ h.b with }, h.say, h.out⟩
theorem Nw.hpost {w w' w'' : World} {col2 : Nat → Nat} {A2 : RA} {g2 g3 : Rp} {v : Value} {l : List Pk} (h : Nw w b col A g w' col2 A2 g2) (r : RepW w'' b col2 { A2 with ov := .slice none 0 0 } g3) (hb : g3.begun = g2.begun) (x : Ext (One b) w' w'') (o : OwnC w'' col2 11 54 19 v (PkR (hide col2 w'')) l) : HPost w b col A g w'' g3 v l := by
  have hc : ∀ k, One b k → col2 k = 1 := fun k s => by have s : k = b := s; rw [s]; exact h.r.c1
  have N := h.same r hb rfl (ColX.refl _ _) ⟨x.mono (fun k _ q => by show col2 k ≠ 0; rw [hc k q]; decide), .of x (fun k q => by rw [hc k q]; decide)⟩
  exact ⟨⟨col2, _, N.r, N.c, N.t, o⟩, N.x, N.k⟩
set_option maxHeartbeats 1000000 in
set_option maxRecDepth 100000 in
theorem rep_Handle (m : Ms) (M : MA) (from_ now : Int) (HBC : BytesC m M) (HD0 : DeedAt m M from_ { g with now := now }) (w : World) (h : RepW w b col A g) (hi : RInv g) (hout : g.out = []) (hm : MsW (hide col w) M m) : Calls Tryz.prog 31 #[.pointer (some ⟨b, 0, none⟩), .int .i64 now, .int .i64 from_, .agg (m.cells M).toArray] w fun e w' =>
    ∃ v, e = .returned v ∧ HPost w b col A g w' (handleG g now from_ m) v (handleL g now from_ m) ∧ RInv (handleG g now from_ m) := by
  have HI := Go.Lib.hid hi; have HD := Go.Lib.hid HD0; have HOut := Go.Lib.hid hout
  have N0 := Go.Lib.hid (Nw.start h)
  have DG : Hid (handleG g now from_ m = if deafB g from_ m = true then g else answerG (deedG { g with now := now } from_ m)) := Go.Lib.hid rfl
  have DLl : Hid (handleL g now from_ m = if deafB g from_ m = true then [] else answerL (deedG { g with now := now } from_ m)) := Go.Lib.hid rfl
  have DB : Hid (deafB g from_ m = (g.halted || decide (from_ = g.id) || decide (bytesE m ≠ 0))) := Go.Lib.hid rfl
  obtain ⟨L, hL⟩ : ∃ L : List Value, L = m.cells M := ⟨_, rfl⟩
  have HL := Go.Lib.hid hL
  have HSz := Go.Lib.hid (show (Tryz.prog.info? 43).map (·.size) = some L.length by rw [hL]; kernel_rfl)
  have H0 : Hid (L[0]? = some (.int .i64 m.kind)) := Go.Lib.hid (by rw [hL]; rfl)
  rw [← hL]
  clear hL
  have X := Go.Lib.hid ((Ext.refl Non w).alloc (.cells L.toArray 43))
  obtain ⟨kb, hkb⟩ : ∃ kb, kb = w.heap.size := ⟨_, rfl⟩
  have BL : Hid (Loc (w.alloc (.cells L.toArray 43)) col kb L 43) := Go.Lib.hid ⟨Bx.newAt w L 43 kb hkb, by rw [hkb]; exact h.new _ (Nat.le_refl _)⟩
  have HM := Go.Lib.hid (hm.extN (hide_extN (col := col) X.out))
  clear h hi hm HD0 hout
  go_enter Tryz.func31, Tryz.ntmps31
  go_upto_region 1 with fail
  rw [← hkb]
  clear hkb
  generalize hW1 : World.alloc _ _ = W1 at *
  have N1 := Go.Lib.hid (N0.out.extN X.out)
  clear hW1 N0 X
  obtain ⟨q1, q2⟩ : _ ∧ _ := ⟨N1.out.r.rhal id, N1.out.r.rid id⟩
  have ST : Hid (∀ w' : World, Ext Non W1 w' → deafB g from_ m = true → ∃ v, Ending.returned (.slice none 0 0) = Ending.returned v ∧ HPost w b col A g w' (handleG g now from_ m) v (handleL g now from_ m) ∧ RInv (handleG g now from_ m)) := Go.Lib.hid (fun w' x hd => by
    have N := N1.out.extN x
    refine ⟨_, rfl, ⟨⟨col, A, ?_, N.c, ?_, ?_⟩, N.x, N.k⟩, ?_⟩
    · rw [DG.out, if_pos hd]; exact N.r
    · rw [DG.out, if_pos hd]; exact N.t
    · rw [DLl.out, if_pos hd]; exact OwnC.nil _ _ _ _ _ _
    · rw [DG.out, if_pos hd]; exact HI.out)
  cases hh : g.halted
  rotate_left
  · have HB := Go.Lib.hid (show deafB g from_ m = true by rw [DB.out, hh]; rfl)
    rw [hh] at q1
    clear hh
    go_wp2
    go_returns
    exact ST.out _ (Ext.refl _ _) HB.out
  rw [hh] at q1
  cases hf : (from_ == g.id)
  rotate_left
  · have HB := Go.Lib.hid (show deafB g from_ m = true by rw [DB.out, hh, decide_eq_true (by simpa using hf)]; rfl)
    clear hh
    go_wp2
    go_returns
    exact ST.out _ (Ext.refl _ _) HB.out
  have HNf := Go.Lib.hid (show ¬ from_ = g.id by simpa using hf)
  have RG := Go.Lib.hid BL.out.h.range
  go_upto_region 3 with fail
  clear q1 q2 hf
  go_wp2_with (refine wpList_load_mid rfl 43 _ rfl kb 0 rfl L _ RG.out Tryz.underlying43 rfl HSz.out ?_)
  have P := HBC W1 (HM.out.show)
  rw [← HL.out] at P
  refine Calls.mono P ?_
  clear P
  rintro e w2 ⟨rfl, x2⟩
  have X2 := Go.Lib.hid x2
  have N2 := Go.Lib.hid (N1.out.extN x2); have B2 := Go.Lib.hid (BL.out.extN x2); have M2 := Go.Lib.hid (HM.out.extN (hide_extN (col := col) x2))
  clear x2 BL HM RG
  by_cases he : bytesE m = 0
  rotate_left
  · have HB := Go.Lib.hid (show deafB g from_ m = true by rw [DB.out, hh, decide_eq_true he]; simp)
    have hbe : (bytesE m != 0) = true := by simpa using he
    clear hh he
    go_wp2
    go_returns
    exact ST.out _ X2.out HB.out
  have HBy := Go.Lib.hid he
  have HB := Go.Lib.hid (show ¬ deafB g from_ m = true by rw [DB.out, hh, decide_eq_false HNf.out, decide_eq_false (by rw [he]; simp)]; simp)
  have DG2 := Go.Lib.hid (DG.out.trans (if_neg HB.out)); have DL2 := Go.Lib.hid (DLl.out.trans (if_neg HB.out))
  have HHa := Go.Lib.hid hh
  rw [he]
  clear he hh DG DLl DB ST X2 N1
  have z0 := N2.out.r.rnow id
  have zf := N2.out.r.rf id 87
  have S3 := N2.out.r.setB id (l := g.left) (a := g.halted) (nw := now) 87 (.int .i64 now) (by rw [show (87 : Nat) = 77 + 10 from rfl, rowRp_set]; rfl)
  have XS : Ext (One b) w2 (w2.setCell ⟨b, 87, none⟩ (.int .i64 now)) := (Ext.refl _ _).set1 _
  have XC := Ext.oneC N2.out.r XS
  have N3 : Hid (Nw w b col A g (w2.setCell ⟨b, 87, none⟩ (.int .i64 now)) col A { g with now := now }) := Go.Lib.hid (N2.out.same S3 rfl rfl (ColX.refl _ _) ⟨XC, .of XS (fun i s => by have s : i = b := s; rw [s, N2.out.r.c1]; decide)⟩)
  have B3 := Go.Lib.hid (B2.out.ext XC (ColX.refl _ _)); have M3 := Go.Lib.hid (M2.out.step XC (ColX.refl _ _))
  clear S3 XS XC N2 B2 M2
  go_upto_region 7 with fail
  clear z0 zf
  generalize World.setCell w2 _ _ = w3 at *
  have c0 : w3.cell? ⟨kb, 0, none⟩ = some (.int .i64 m.kind) := B3.out.h.cell (j := 0) H0.out
  go_wp2_with fail
  refine (rep_deed m.kind _).mono ?_
  rintro e w4 ⟨rfl, x4⟩
  have N4 := Go.Lib.hid (N3.out.extN x4); have B4 := Go.Lib.hid (B3.out.extN x4); have M4 := Go.Lib.hid (M3.out.extN (hide_extN (col := col) x4))
  have HI4 := Go.Lib.hid (now_inv HI.out now)
  clear x4 c0 N3 B3 M3
  generalize hdo : deedO m.kind = dk at *
  have HDo := Go.Lib.hid hdo
  clear hdo
  cases dk with
  | none =>
    have HE := Go.Lib.hid (show deedG { g with now := now } from_ m = { g with now := now } from deed_none HDo.out)
    have hne : ∀ W : World, (binOp .neq 134 .nilFunc .nilFunc).run Tryz.prog W = .ok (.bool false) W := fun W => by kernel_rfl
    rw [show fnV none = .nilFunc from rfl]
    go_wp2_with fail
    refine (rep_answer _ N4.out.r).mono ?_
    rintro e w5 ⟨v, rfl, r5, o5, x5⟩
    have HF := Go.Lib.hid (And.intro (N4.out.hpost r5 rfl x5 o5) HI4.out.answered)
    clear r5 o5 x5
    go_wp2
    go_returns
    exact ⟨v, rfl, by rw [DG2.out, DL2.out, HE.out]; exact HF.out.1, by rw [DG2.out, HE.out]; exact HF.out.2⟩
  | some fn =>
    rw [show fnV (some fn) = .func (.func fn) #[] #[] from rfl]
    have hne : ∀ W : World, (binOp .neq 134 (.func (.func fn) #[] #[]) .nilFunc).run Tryz.prog W = .ok (.bool true) W := fun W => by kernel_rfl
    have RG := Go.Lib.hid B4.out.h.range
    have hin := deed_cases HDo.out
    simp only [List.mem_cons, List.not_mem_nil, or_false] at hin
    rcases hin with rfl | rfl | rfl | rfl | rfl | rfl | rfl | rfl | rfl
    all_goals
      go_wp2_with (refine wpList_load_mid rfl 43 _ rfl kb 0 rfl L _ RG.out Tryz.underlying43 rfl HSz.out ?_)
      have P := HD.out _ w4 b col A HDo.out N4.out.r HI4.out HHa.out M4.out HBy.out
      rw [← HL.out] at P
      refine Calls.mono P ?_
      clear P
      rintro e w5 ⟨rfl, p, ip⟩
      obtain ⟨col5, A5, N5', -, -, -⟩ := N4.out.step p
      have N5 := Go.Lib.hid N5'; have HI5 := Go.Lib.hid ip
      clear p N5' ip RG B4 M4 N4
      go_wp2_with fail
      refine (rep_answer _ N5.out.r).mono ?_
      rintro e w6 ⟨v, rfl, r6, o6, x6⟩
      have HF := Go.Lib.hid (N5.out.hpost r6 rfl x6 o6)
      clear r6 o6 x6
      go_wp2
      go_returns
      exact ⟨v, rfl, by rw [DG2.out, DL2.out]; exact HF.out, by rw [DG2.out]; exact HI5.out⟩
end
end Go.Proofs.YtflpkoafebjfdaaGreat

/- Contracts of layer 18 (replica): New. -/
namespace Go.Proofs.YtflpkoafebjfdaaGreat
open Go.RowKit Go.Lib F64
set_option linter.unusedSimpArgs false
set_option linter.unusedVariables false
attribute [local go_sem] run_store_float
attribute [local go_sem low] EW.cellN EW.frozN alloc_cell_or alloc_froz_or
attribute [local go_sem] relAt relUpon
theorem TkI.new {mem : List Int} (h : confB 0 mem = true) : TkI (newTk mem) where
  len := rfl
  le := by show (1 : Nat) ≤ 61; decide
  ok := fun i hi => by
    have hi : i < 1 := hi
    have : i = 0 := by omega
    subst this
    exact ⟨rfl, h⟩
  sg := fun s hs => (nomatch hs)
theorem RInv.new {id : Int} {mem : List Int} (hi : 0 ≤ id ∧ id < 16) (h : confB 0 mem = true) : RInv (newRp id mem) := by
  have hm : membersB mem = true := by unfold confB at h; simp at h; exact h
  have hB : InvB (newRp id mem) := {
    id := hi
    bk := inv_new hm
    ep := rfl
    mem := rfl
    tep := rfl
    tmem := rfl
    lg := LogI.new _ _
    tm := Nat.zero_le _
    wt := fun _ => zeroV_cl
    lf := by show (0 : Int) ≤ 64 ∧ (64 : Int) ≤ 64; omega
    hs := by show ((0 : Nat) : Int) ≤ (newL mem).done; exact Int.le_refl _
    nx := by show (0 : Int) * 4 + 1 ≤ 1 ∧ (1 : Int) ≤ 0 * 4 + 1 + 4; omega
    ch := TkI.new h
    chl := by show ((1 : Nat) : Int) = 0 + 1; omega
    chc := fun p hp => (nomatch hp)
    chn := by show (([] : List (Int × Ch)).map (·.1)).Nodup; simp
    st := by show I64 0 ∧ ByteArray.empty.size ≤ 9223372036854775807 ∧ (0 : Int) ≤ 0 ∧ (0 : Int) ≤ 60; exact ⟨by unfold I64; omega, by decide, by omega, by omega⟩ }
  exact ⟨hB, by have := hB.sayb; show ((0 : Nat) : Int) ≤ _; omega, by have := hB.outb; show ((0 : Nat) : Int) ≤ _; omega⟩
/-- A new replica's row ahead of its first term. -/
def rowN (id : Int) (nb cb kt : Nat) : List Value := [.pointer none, .int .i64 id, .pointer (some ⟨nb, 0, none⟩), .pointer (some ⟨cb, 0, none⟩), .pointer (some ⟨kt, 0, none⟩)] ++ (wtRow (fun _ => zeroV) ++ [.slice none 0 0, .string ⟨#[]⟩, .slice none 0 0, .int .i64 0, .slice none 0 0, .slice none 0 0, .int .i64 64, .bool false, .slice none 0 0, .slice none 0 0, .int .i64 0])
/-- The colours of a new replica ahead of its first term. -/
def col0 (cb cb1 nb nm kt kr : Nat) : Nat → Nat := fun k => if k = cb ∨ k = cb1 then 7 else if k = nb ∨ k = nm then 6 else if k = kt then 8 else if k = kr then 1 else 0
def newA (cb cb1 nb nm kt : Nat) : RA := ⟨0, nb, nm, cb, kt, .slice none 0 0, none, 0, none, 0, none, 0, .slice none 0 0, .slice none 0 0, 0, 0, 0, none, 0⟩
theorem half_new {w1 w2 w3 w5 : World} {cb cb1 nb nm kt kr : Nat} {sa : Option Addr} {sc : Nat} {xs : List Int} (id : Int) (T : NewTk w1.heap.size w2 cb cb1 sa sc xs) (x3 : Ext Non w2 w3) (L : Y.LD (fun _ => False) w3 nb nm (newL xs)) (hb : w2.heap.size ≤ nb) (hm : w2.heap.size ≤ nm) (hkt : kt = w3.heap.size) (hkr : kt < kr) (hl : kr < w5.heap.size) (x5 : Ext Non w3 w5) (T5 : T3 w5 kt 0 false 0) :
    Half w5 kr (col0 cb cb1 nb nm kt kr) (newA cb cb1 nb nm kt) { newRp id xs with begun := 0 } := by
  have l1 := T.h.lt; have l2 := T.h1.lt; have l3 := L.lt; have l4 := L.mp.lt; have s3 := x3.size; have s5 := x5.size
  have Tb := (T.h.extN x3).extN x5; have T1 := (T.h1.extN x3).extN x5
  have L5 := L.extN x5
  have hne : cb ≠ cb1 := fun e => by
    have h1 := T.h.h; have h2 := T.h1.h
    rw [e, h2] at h1
    injection h1 with h1; injection h1 with _ h1 _; exact absurd h1 (by decide)
  have e7 : col0 cb cb1 nb nm kt kr cb = 7 := by unfold col0; rw [if_pos (.inl rfl)]
  have e71 : col0 cb cb1 nb nm kt kr cb1 = 7 := by unfold col0; rw [if_pos (.inr rfl)]
  have e6 : col0 cb cb1 nb nm kt kr nb = 6 := by unfold col0; rw [if_neg (by omega), if_pos (.inl rfl)]
  have e61 : col0 cb cb1 nb nm kt kr nm = 6 := by unfold col0; rw [if_neg (by omega), if_pos (.inr rfl)]
  have e8 : col0 cb cb1 nb nm kt kr kt = 8 := by unfold col0; rw [if_neg (by omega), if_neg (by omega), if_pos rfl]
  have e1 : col0 cb cb1 nb nm kt kr kr = 1 := by unfold col0; rw [if_neg (by omega), if_neg (by omega), if_neg (by omega), if_pos rfl]
  have noI : ∀ k vs fr, k < w3.heap.size → w5.heap[k]? = some (.cells vs 3 fr) → col0 cb cb1 nb nm kt kr k = 0 := fun k vs fr hk hh => by
    have z1 : k ≠ cb := fun e => by rw [e, Tb.h] at hh; injection hh with hh; injection hh with _ hh _; exact absurd hh (by decide)
    have z2 : k ≠ cb1 := fun e => by rw [e, T1.h] at hh; injection hh with hh; injection hh with _ hh _; exact absurd hh (by decide)
    have z3 : k ≠ nb := fun e => by
      obtain ⟨_, _, _, _, h, _⟩ := L5.ex
      rw [e, h] at hh; injection hh with hh; injection hh with _ hh _; exact absurd hh (by decide)
    have z4 : k ≠ nm := fun e => by
      obtain ⟨es, c, h, _⟩ := L5.mp.ex
      rw [e, h] at hh; injection hh with hh; cases hh
    unfold col0
    rw [if_neg (by omega), if_neg (by omega), if_neg (by omega), if_neg (by omega)]
  have noZ : ∀ a, Y.intZ (fun _ => False) w3 a → Y.intZ (colS w5 (col0 cb cb1 nb nm kt kr)) w5 a := fun a ha k o e => by
    obtain ⟨-, vs, fr, h2⟩ := ha k o e
    have hk := (Array.getElem?_eq_some_iff.1 h2).1
    have h5 := (x5.block k hk (fun q => q)).trans h2
    exact ⟨fun z => z.2 (noI k vs fr hk h5), vs, fr, h5⟩
  obtain ⟨a1, c1, a2, c2, hh, i1, i2, z1, z2⟩ := L.ex
  have hh5 := (x5.block nb l3 (fun q => q)).trans hh
  have hI : Ints (hide (col0 cb cb1 nb nm kt kr) w5) sa sc xs := ((T.ints.extN x3).extN x5).hide (fun k o e => by
    obtain ⟨-, vs, fr, h2⟩ := T.fr k o e
    have hk := (Array.getElem?_eq_some_iff.1 h2).1
    exact noI k vs fr (by omega) ((x5.block k (by omega) (fun q => q)).trans ((x3.block k hk (fun q => q)).trans h2)))
  exact {
    book := ⟨⟨⟨a1, c1, a2, c2, hh5, i1.extN x5, i2.extN x5, noZ _ z1, noZ _ z2⟩, L5.mp, fun k hk => hk.1⟩, e6, e61⟩
    chn := ⟨.slice (some ⟨cb1, 0, none⟩) 1 1, .slice none 0 0, {
      h := Tb
      r1 := ⟨⟨[.int .i64 0, .slice sa xs.length sc], ⟨rfl, .inr ⟨cb1, 1, _, rfl, Nat.zero_le _, T1.h, Nat.le_refl _, by decide, rfl, rfl⟩⟩, ⟨[.int .i64 0, .slice sa xs.length sc], [], rfl, ⟨sa, sc, rfl, hI, by show I64 0; unfold I64; omega⟩, rfl⟩⟩, fun k hk => by
        have hk : some cb1 = some k := hk
        injection hk with hk
        rw [← hk]; exact e71⟩
      r2 := OwnC.nil _ _ _ _ _ _
      c := e7 }⟩
    tmr := T5
    hist := OwnC.nil _ _ _ _ _ _
    out := OwnC.nil _ _ _ _ _ _
    ss := Sigs.nil' _
    sm := Ints.nil' _
    sl := Sigs.nil' _
    c1 := e1
    b1 := hl
    c8 := e8
    b8 := by show kt < _; omega
    new := fun k hk => by unfold col0; rw [if_neg (by omega), if_neg (by omega), if_neg (by omega), if_neg (by omega)] }
set_option maxHeartbeats 1000000 in
set_option maxRecDepth 100000 in
theorem rep_New_ok (id : Int) (hid : 0 ≤ id ∧ id < 16) (a : Option Addr) (cap : Nat) (xs : List Int) (hc : confB 0 xs = true) (w : World) (h : Ints w a cap xs) : Calls Tryz.prog 11 #[.int .i64 id, .agg #[.int .i64 0, .slice a xs.length cap]] w fun e w' =>
    ∃ b col A, e = .returned (.tuple #[.pointer (some ⟨b, 0, none⟩), .int .i64 0]) ∧ Ext Non w w' ∧ RepW w' b col A (newRp id xs) ∧ (∀ k, k < w.heap.size → col k = 0) ∧ RInv (newRp id xs) := by
  have HI := Go.Lib.hid h; have HC := Go.Lib.hid hc; have HId := Go.Lib.hid hid
  have hmem : membersB xs = true := by unfold confB at hc; simp at hc; exact hc
  have HMm := Go.Lib.hid hmem
  have X1 := Go.Lib.hid ((Ext.refl Non w).alloc (.cells #[.int .i64 0, .slice a xs.length cap] 24))
  obtain ⟨kf, hkf⟩ : ∃ kf, kf = w.heap.size := ⟨_, rfl⟩
  have B1 := Go.Lib.hid (Bx.newAt w [.int .i64 0, .slice a xs.length cap] 24 kf hkf)
  clear h hc hid hmem
  go_enter Tryz.func11, Tryz.ntmps11
  go_upto_region 1 with fail
  rw [← hkf]
  clear hkf
  generalize World.alloc w _ = w1 at *
  have I1 := Go.Lib.hid (HI.out.extN X1.out)
  obtain ⟨c0, c1⟩ : _ ∧ _ := ⟨B1.out.cell (j := 0) rfl, B1.out.cell (j := 1) rfl⟩
  go_wp2_with fail
  refine (lin_New a cap xs HC.out _ I1.out).mono ?_
  rintro e w2 ⟨cb, cb1, sa, sc, rfl, x2, hT⟩
  have T2 := Go.Lib.hid hT; have XX2 := Go.Lib.hid (X1.out.trans x2); have B2 := Go.Lib.hid (B1.out.extN x2); have I2 := Go.Lib.hid (I1.out.extN x2); have HN1 := Go.Lib.hid (show w.heap.size ≤ w1.heap.size from X1.out.size)
  clear c0 c1 hT x2 B1 I1 X1
  have hid0 := HId.out.1; have hid1 := HId.out.2
  obtain ⟨c0, c1⟩ : _ ∧ _ := ⟨B2.out.cell (j := 0) rfl, B2.out.cell (j := 1) rfl⟩
  go_wp2_with fail
  refine (Y.ledger_New_ok (zn := fun _ => False) a cap xs HMm.out _ I2.out (fun k q => q.elim)).mono ?_
  rintro e w3 ⟨nb, nm, rfl, x3, hL, hnb, hnm⟩
  have L3 := Go.Lib.hid hL; have XX3 := Go.Lib.hid (XX2.out.trans x3); have HX3 := Go.Lib.hid x3; have HNb := Go.Lib.hid (And.intro hnb hnm)
  clear c0 c1 hL x3 hnb hnm B2 I2 hid0 hid1
  go_wp2_with fail
  refine (pat_New _).mono ?_
  rintro e w4 ⟨rfl, x4, hT4⟩
  have T4 := Go.Lib.hid hT4; have HX4 := Go.Lib.hid x4
  obtain ⟨kt, hkt⟩ : ∃ kt, kt = w3.heap.size := ⟨_, rfl⟩
  rw [← hkt] at T4 ⊢
  have HKt := Go.Lib.hid hkt
  clear x4 hT4 hkt
  obtain ⟨kr, hkr⟩ : ∃ kr, kr = w4.heap.size := ⟨_, rfl⟩
  have HKr := Go.Lib.hid hkr
  have BR := Go.Lib.hid (Bx.newAt w4 (rowN id nb cb kt) 108 kr hkr)
  have X5 := Go.Lib.hid ((Ext.refl Non w4).alloc (.cells (rowN id nb cb kt).toArray 108))
  obtain ⟨R, hR⟩ : ∃ R, R = rowN id nb cb kt := ⟨_, rfl⟩
  have HR := Go.Lib.hid hR
  rw [← hR] at BR X5
  clear hR
  have hRr : (((((Tryz.zeroCells108.setIfInBounds 1 (.int .i64 id)).setIfInBounds 2 (.pointer (some ⟨nb, 0, none⟩))).setIfInBounds 3 (.pointer (some ⟨cb, 0, none⟩))).setIfInBounds 4 (.pointer (some ⟨kt, 0, none⟩))).setIfInBounds 83 (.int .i64 64)) = R.toArray := by rw [HR.out]; kernel_rfl
  go_upto_region 6 with fail
  clear hRr
  rw [← hkr]
  clear hkr
  generalize World.alloc w4 _ = w5 at *
  have XX5 := Go.Lib.hid (XX3.out.trans (HX4.out.trans X5.out))
  have T5 := Go.Lib.hid (T4.out.ext X5.out (fun q => q))
  have HH := Go.Lib.hid (half_new (kr := kr) id T2.out HX3.out L3.out HNb.out.1 HNb.out.2 HKt.out (by rw [HKr.out, HKt.out]; have := T4.out.lt; rw [HKt.out] at this; exact this) BR.out.lt (HX4.out.trans X5.out) T5.out)
  have HLd := Go.Lib.hid (L3.out.extN (HX4.out.trans X5.out)).to
  have HCo : Hid (∀ k, k < w.heap.size → col0 cb cb1 nb nm kt kr k = 0) := Go.Lib.hid (fun k hk => by
    have h1 := T2.out.lb; have h2 := T2.out.l1; have h3 := HN1.out; have h4 := HNb.out; have h5 := HKt.out; have h6 := HKr.out; have h7 := T2.out.h.lt; have h8 := HX3.out.size; have h9 := HX4.out.size
    unfold col0
    rw [if_neg (by omega), if_neg (by omega), if_neg (by omega), if_neg (by omega)])
  have HKn : Hid (w.heap.size ≤ kr) := Go.Lib.hid (by have h1 := HN1.out; have h4 := HNb.out; have h6 := HKr.out; have h7 := T2.out.h.lt; have h2 := T2.out.lb; have h8 := HX3.out.size; have h9 := HX4.out.size; have h3 := L3.out.lt; omega)
  go_wp2_with fail
  refine (rep_renew kr nb nm (newL xs) (inv_new HMm.out) R (by rw [HR.out]; rfl) (by rw [HR.out]; rfl) _ BR.out HLd.out).mono ?_
  rintro e w6 ⟨bt, bl, ta, m1, m2, mch, n1, n2, n3, G, ca, ssa, cc, ssc, rfl, x6, hN⟩
  obtain ⟨col6, r6, hc6, hb6⟩ := HH.out.renewed (inv_new HMm.out) x6 hN (by rw [HR.out]; rfl)
  have HF : Hid (RepW w6 kr col6 _ (newRp id xs) ∧ (∀ k, k < w.heap.size → col6 k = 0) ∧ Ext Non w w6) := Go.Lib.hid ⟨r6, fun k hk => by
    have hs := XX5.out.size
    rw [hc6 k (by omega)]; exact HCo.out k hk, XX5.out.step x6 (fun j hj q => by have q : j = kr := q; have := HKn.out; omega)⟩
  clear x6 hN r6 hc6 hb6
  go_wp2
  go_returns
  exact ⟨kr, col6, _, rfl, HF.out.2.2, HF.out.1, HF.out.2.1, RInv.new HId.out HC.out⟩
end Go.Proofs.YtflpkoafebjfdaaGreat

/- Layer 18 (replica): what the messages of kinds 1 to 5 do. -/
namespace Go.Proofs.YtflpkoafebjfdaaGreat
open Go.RowKit Go.Lib F64
set_option linter.unusedSimpArgs false
set_option linter.unusedVariables false
theorem good_kind {m : Ms} (h : bytesE m = 0) : kindB m = true := by
  have := (good_of h).f
  unfold fitsM at this
  simp only [Bool.and_eq_true] at this
  exact this.2
theorem deedAt_1 (m : Ms) (M : MA) (from_ : Int) (hf : I64 from_) (hk : m.kind = 1) (g : Rp) (HT : PrAt P64 (waitS g m)) : DeedAt m M from_ g := fun fn w b col A hfn h hi hh hm hb => by
  have h1 : some 120 = some fn := by rw [← hfn, hk]; decide
  injection h1 with h1
  subst h1
  rw [show deedG g from_ m = onRequest g from_ m by unfold deedG; rw [if_pos hk]]
  have hB := good_kind hb
  unfold kindB at hB
  rw [if_pos hk] at hB
  simp only [Bool.and_eq_true] at hB
  have hr := rightB_facts hB.1.1
  exact rep_onRequest m M from_ hf HT w h hi hm (by omega)
end Go.Proofs.YtflpkoafebjfdaaGreat

/- The law of layer 18: four, ask. -/
namespace Go.Proofs.YtflpkoafebjfdaaGreat
open Go.RowKit Go.Lib F64
set_option linter.unusedSimpArgs false
set_option linter.unusedVariables false
attribute [local go_sem] run_store_float
attribute [local go_sem low] EW.cellN EW.frozN alloc_cell_or alloc_froz_or
attribute [local go_sem] relAt relUpon
set_option maxHeartbeats 1000000 in
set_option maxRecDepth 100000 in
theorem law18_four (w : World) : Calls Tryz.prog 39 #[] w fun e w' => ∃ k, e = .returned (.agg #[.int .i64 0, .slice (some ⟨k, 0, none⟩) 4 4]) ∧ Ext Non w w' ∧ Ints w' (some ⟨k, 0, none⟩) 4 four18 := by
  go_enter Tryz.func39, Tryz.ntmps39
  go_wp2
  go_returns
  exact ⟨_, rfl, by (repeat (first | with_reducible (first | exact Ext.refl _ _ | assumption | refine Ext.upN ?_ | refine Ext.alloc ?_ _ | refine Ext.drew ?_ | refine Ext.drewN ?_ _ | refine Ext.up1N (by first | omega | simp) ?_) | refine Ext.alloc ?_ _ | refine Ext.setCell ?_ (.inr (by first | omega | simp)) _)), ints_box _ [0, 1, 2, 3] _ _ (Bx.newAt _ _ _ _ (by show _ = (w.heap.push _).size; rw [Array.size_push])) (by decide) (by intro x hx; simp at hx; unfold I64; omega)⟩
theorem cells_ask (ks : Nat) : (askM.cells ⟨none, 0, some ⟨ks, 0, none⟩, 1, none, 0, none, 0⟩) = [.int .i64 1, .int .i64 0, .int .i64 0, .int .i64 0, .int .i64 1, .int .i64 1, .int .i64 6, .string ⟨#[]⟩, .float .f64 0, .int .i64 5, .int .i64 0, .float .f64 0, .string ⟨#[]⟩, .slice none 0 0, .slice (some ⟨ks, 0, none⟩) 1 1, .slice none 0 0, .slice none 0 0] := rfl
set_option maxHeartbeats 1000000 in
set_option maxRecDepth 100000 in
theorem law18_ask (w : World) : Calls Tryz.prog 40 #[] w fun e w' => ∃ ks, e = .returned (.agg (askM.cells ⟨none, 0, some ⟨ks, 0, none⟩, 1, none, 0, none, 0⟩).toArray) ∧ Ext Non w w' ∧ MsW w' ⟨none, 0, some ⟨ks, 0, none⟩, 1, none, 0, none, 0⟩ askM ∧ w.heap.size ≤ ks := by
  obtain ⟨n0, hn0⟩ : ∃ n0, n0 = w.heap.size := ⟨_, rfl⟩
  have HN := Go.Lib.hid hn0
  have BZ := Bx.newAt w [.int .i64 0, .int .i64 0, .int .i64 0, .int .i64 0, .int .i64 0, .int .i64 0, .int .i64 0, .string ⟨#[]⟩, .float .f64 0, .int .i64 0, .int .i64 0, .float .f64 0, .string ⟨#[]⟩, .slice none 0 0, .slice none 0 0, .slice none 0 0, .slice none 0 0] 43 n0 hn0
  have X0 : Ext Non w (w.alloc (.cells #[.int .i64 0, .int .i64 0, .int .i64 0, .int .i64 0, .int .i64 0, .int .i64 0, .int .i64 0, .string ⟨#[]⟩, .float .f64 0, .int .i64 0, .int .i64 0, .float .f64 0, .string ⟨#[]⟩, .slice none 0 0, .slice none 0 0, .slice none 0 0, .slice none 0 0] 43)) := (Ext.refl Non w).alloc _
  have hs1 : n0 + 1 = (w.alloc (.cells #[.int .i64 0, .int .i64 0, .int .i64 0, .int .i64 0, .int .i64 0, .int .i64 0, .int .i64 0, .string ⟨#[]⟩, .float .f64 0, .int .i64 0, .int .i64 0, .float .f64 0, .string ⟨#[]⟩, .slice none 0 0, .slice none 0 0, .slice none 0 0, .slice none 0 0] 43)).heap.size := by rw [hn0]; show _ = (w.heap.push _).size; rw [Array.size_push]
  have BQ := Go.Lib.hid (Bx.newAt (w.alloc (.cells #[.int .i64 0, .int .i64 0, .int .i64 0, .int .i64 0, .int .i64 0, .int .i64 0, .int .i64 0, .string ⟨#[]⟩, .float .f64 0, .int .i64 0, .int .i64 0, .float .f64 0, .string ⟨#[]⟩, .slice none 0 0, .slice none 0 0, .slice none 0 0, .slice none 0 0] 43)) [.int .i64 1, .int .i64 1, .int .i64 6, .string ⟨#[]⟩, .float .f64 0, .int .i64 5] 37 (n0 + 1) hs1)
  have X1 : Ext Non (w.alloc (.cells #[.int .i64 0, .int .i64 0, .int .i64 0, .int .i64 0, .int .i64 0, .int .i64 0, .int .i64 0, .string ⟨#[]⟩, .float .f64 0, .int .i64 0, .int .i64 0, .float .f64 0, .string ⟨#[]⟩, .slice none 0 0, .slice none 0 0, .slice none 0 0, .slice none 0 0] 43)) ((w.alloc (.cells #[.int .i64 0, .int .i64 0, .int .i64 0, .int .i64 0, .int .i64 0, .int .i64 0, .int .i64 0, .string ⟨#[]⟩, .float .f64 0, .int .i64 0, .int .i64 0, .float .f64 0, .string ⟨#[]⟩, .slice none 0 0, .slice none 0 0, .slice none 0 0, .slice none 0 0] 43)).alloc (.cells #[.int .i64 1, .int .i64 1, .int .i64 6, .string ⟨#[]⟩, .float .f64 0, .int .i64 5] 37)) := (Ext.refl Non _).alloc _
  have BZ1 := Go.Lib.hid (BZ.extN X1)
  have XX1 := Go.Lib.hid (X0.trans X1)
  clear BZ X0 X1 hs1
  go_enter Tryz.func40, Tryz.ntmps40
  go_upto_region 2 with fail
  rw [← hn0]
  clear hn0
  generalize World.alloc (World.alloc w _) _ = w1 at *
  obtain ⟨q0, q1, q2, q3, q4, q5⟩ := BQ.out.six
  go_wp2_with fail
  refine (ref_Text 1 1 6 ⟨#[]⟩ 0 5 (by unfold I64; omega) (by unfold I64; omega) (by unfold I64; omega) (by unfold I64; omega) (by decide) (by decide) _).mono ?_
  rintro e w2 ⟨rfl, x2⟩
  rw [show reqS ⟨1, 1, ⟨6, ⟨#[]⟩, 0, 5⟩⟩ = reqS askQ from rfl]
  have HTx : Hid ((reqS askQ).size ≤ 9223372036854775807) := Go.Lib.hid (by decide +kernel)
  have HAs : Hid (askM = { nullM with kind := 1, req := askQ, sigs := [⟨101, reqS askQ⟩] }) := Go.Lib.hid rfl
  generalize reqS askQ = tx at *
  generalize reqE _ = te at *
  have BZ2 := Go.Lib.hid (BZ1.out.extN x2); have BQ2 := Go.Lib.hid (BQ.out.extN x2); have XX2 := Go.Lib.hid (XX1.out.trans x2)
  clear q0 q1 q2 q3 q4 q5 x2 BZ1 BQ XX1
  obtain ⟨q0, q1, q2, q3, q4, q5⟩ := BQ2.out.six
  obtain ⟨ks, hks⟩ : ∃ ks, ks = w2.heap.size := ⟨_, rfl⟩
  have BS := Go.Lib.hid (Bx.newAt w2 [.int .i64 101, .string tx] 48 ks hks)
  have X3 := Go.Lib.hid ((Ext.refl Non w2).alloc (.cells #[.int .i64 101, .string tx] 48))
  go_upto_region 3 with fail
  go_wp2_with (refine wpList_store_box rfl 43 _ _ rfl n0 _ [.int .i64 1, .int .i64 0, .int .i64 0, .int .i64 0, .int .i64 1, .int .i64 1, .int .i64 6, .string ⟨#[]⟩, .float .f64 0, .int .i64 5, .int .i64 0, .float .f64 0, .string ⟨#[]⟩, .slice none 0 0, .slice (some ⟨w2.heap.size, 0, none⟩) 1 1, .slice none 0 0, .slice none 0 0] _ rfl rfl (BZ2.out.extN X3.out) rfl (by kernel_rfl) (by simp [Value.oneCell']) (fun W hB => ?_); have BF := Go.Lib.hid hB; clear hB)
  rw [← hks] at BF
  have XF := Go.Lib.hid (W.ext)
  have HKs : Hid (w.heap.size ≤ ks) := Go.Lib.hid (by rw [hks]; exact XX2.out.size)
  have hkn : ks ≠ n0 := by have := BZ2.out.lt; omega
  have BS4 := Go.Lib.hid (BS.out.ext W.ext (fun q => hkn q))
  have XX4 := Go.Lib.hid ((XX2.out.trans X3.out).step W.ext (fun j hj q => by have q : j = n0 := q; have := HN.out; omega))
  clear XF hks hkn X3 BS XX2 BZ2 BQ2 q0 q1 q2 q3 q4 q5
  generalize W.on = w4 at *
  obtain ⟨r0, r1, r2, r3, r4, r5, r6, r7, r8, r9, r10, r11, r12, r13, r14, r15, r16⟩ : _ ∧ _ ∧ _ ∧ _ ∧ _ ∧ _ ∧ _ ∧ _ ∧ _ ∧ _ ∧ _ ∧ _ ∧ _ ∧ _ ∧ _ ∧ _ ∧ _ := ⟨BF.out.cell (j := 0) rfl, BF.out.cell (j := 1) rfl, BF.out.cell (j := 2) rfl, BF.out.cell (j := 3) rfl, BF.out.cell (j := 4) rfl, BF.out.cell (j := 5) rfl, BF.out.cell (j := 6) rfl, BF.out.cell (j := 7) rfl, BF.out.cell (j := 8) rfl, BF.out.cell (j := 9) rfl, BF.out.cell (j := 10) rfl, BF.out.cell (j := 11) rfl, BF.out.cell (j := 12) rfl, BF.out.cell (j := 13) rfl, BF.out.cell (j := 14) rfl, BF.out.cell (j := 15) rfl, BF.out.cell (j := 16) rfl⟩
  (try simp only [Exit.inBlock, Exit.then])
  refine bodyPost_ret (by simp [results, Tryz.results40, go_sem, r0, r1, r2, r3, r4, r5, r6, r7, r8, r9, r10, r11, r12, r13, r14, r15, r16]; try rfl) rfl ?_
  refine ⟨ks, by rw [cells_ask], XX4.out, ?_, HKs.out⟩
  rw [HAs.out]
  exact ⟨Ints.nil' _, sigs_box BS4.out (by unfold I64; omega) HTx.out, Chs.nil' _, Lks.nil' _, ⟨by show I64 1; unfold I64; omega, by show I64 0; unfold I64; omega, by show I64 0; unfold I64; omega, by show I64 0; unfold I64; omega, ⟨by show I64 1; unfold I64; omega, by show I64 1; unfold I64; omega, by show I64 6; unfold I64; omega, by show I64 5; unfold I64; omega, by show (0 : Nat) < _; decide, by show ByteArray.empty.size ≤ _; decide⟩, by show I64 0; unfold I64; omega, by show 0 < _; decide, by show ByteArray.empty.size ≤ _; decide⟩⟩
end Go.Proofs.YtflpkoafebjfdaaGreat
