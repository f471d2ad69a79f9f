/- Joined texts: Slots13, SlotsNil14. What each proves stands at its head; no conditions beside those in its theorems. -/
import Derived.Test.YtakbkpklfihfiaaPjBF
/- Layer 14's lives: three of four prepare and commit. -/
namespace Go.Proofs.Ytakbkpklfihfiaa
open Go.RowKit Go.Lib F64
set_option linter.unusedSimpArgs false
set_option linter.unusedVariables false
attribute [local go_sem] run_store_float
attribute [local go_sem low] EW.cellN EW.frozN alloc_cell_or alloc_froz_or EW.cellF EW.frozF EW.cell1 EW.froz1
attribute [local go_sem] relAt relUpon
def gA : Lo := proposeG (newLo 0 [0, 1, 2, 3]) 2 nullR
def gP (g : Lo) (id : Int) : Lo := prepareG g id 2 nullR id (prepS 0 0 2 nullR)
def gC (g : Lo) (id : Int) : Lo := commitG (gP g id) id 2 nullR
def gAt : Nat → Lo
  | 0 => gA
  | k + 1 => gC (gAt k) k
theorem lives14_a : proposeE (newLo 0 [0, 1, 2, 3]) 2 nullR = 0 := by decide +kernel
theorem lives14_p0 : prepareE (gAt 0) 0 2 nullR 0 (prepS 0 0 2 nullR) = 0 := by decide +kernel
theorem lives14_p1 : prepareE (gAt 1) 1 2 nullR 1 (prepS 0 0 2 nullR) = 0 := by decide +kernel
theorem lives14_p2 : prepareE (gAt 2) 2 2 nullR 2 (prepS 0 0 2 nullR) = 0 := by decide +kernel
theorem lives14_c0 : commitE (gP (gAt 0) 0) 0 2 nullR = 0 := by decide +kernel
theorem lives14_c1 : commitE (gP (gAt 1) 1) 1 2 nullR = 0 := by decide +kernel
theorem lives14_c2 : commitE (gP (gAt 2) 2) 2 2 nullR = 0 := by decide +kernel
theorem lives14_d : (committedO (gAt 3) 2).isSome = true := by decide +kernel
theorem lives14_e : preparedB (gAt 3) 2 = true := by decide +kernel
theorem lives14_f : (certsG (gAt 3)).length = 1 := by decide +kernel
theorem lives14_g : sizeG (gAt 3) = 7 := by decide +kernel
theorem lives14_h : FewB (gAt 3) := by
  intro i hi
  have h4 : i = 0 ∨ i = 1 ∨ i = 2 ∨ i = 3 := by omega
  rcases h4 with rfl | rfl | rfl | rfl <;> decide +kernel
theorem lives14_i : SigsB (gAt 3) := by
  have h : ∀ i, i < 4 → ((gAt 3).sl i).cert.all (fun c => decide (c.sigs.length ≤ 100000)) = true := by
    intro i hi
    have h4 : i = 0 ∨ i = 1 ∨ i = 2 ∨ i = 3 := by omega
    rcases h4 with rfl | rfl | rfl | rfl <;> decide +kernel
  intro i hi c hc
  have := h i hi
  rw [hc] at this
  simpa using this
theorem lives14_conf : confB 0 [0, 1, 2, 3] = true := by decide +kernel
theorem nullR_ok : ReqOk ⟨0, 0, ⟨0, ByteArray.empty, 0, 0⟩⟩ := ⟨i64_lit (by decide) (by decide), i64_lit (by decide) (by decide), i64_lit (by decide) (by decide), i64_lit (by decide) (by decide), by decide, by decide⟩
theorem lives14_p (k : Nat) (h : k < 3) : prepareE (gAt k) k 2 nullR k (prepS 0 0 2 nullR) = 0 := by
  have h3 : k = 0 ∨ k = 1 ∨ k = 2 := by omega
  rcases h3 with rfl | rfl | rfl
  · exact lives14_p0
  · exact lives14_p1
  · exact lives14_p2
theorem lives14_c (k : Nat) (h : k < 3) : commitE (gP (gAt k) k) k 2 nullR = 0 := by
  have h3 : k = 0 ∨ k = 1 ∨ k = 2 := by omega
  rcases h3 with rfl | rfl | rfl
  · exact lives14_c0
  · exact lives14_c1
  · exact lives14_c2
theorem lof_step {b : Nat} {G G' : Nat → Prop} {n m : Nat} (h : ∀ j, LoF b G j → n ≤ j) (hG : ∀ k, G' k → G k ∨ m ≤ k) (hm : n ≤ m) : ∀ j, LoF b G' j → n ≤ j := fun j hj => by
  rcases hj with rfl | hj
  · exact h _ (.inl rfl)
  · rcases hG j hj with q | q
    · exact h _ (.inr q)
    · omega
theorem Ext.own {S : Nat → Prop} {a w w' : World} (h : Ext Non a w) (x : Ext S w w') (hS : ∀ k, S k → a.heap.size ≤ k) : Ext Non a w' := h.step x (fun i hi e => by have := hS i e; omega)
set_option maxHeartbeats 4000000 in
set_option maxRecDepth 100000 in
theorem law14_lives (w : World) : Calls Try.prog 33 #[] w fun e w' => e = .returned (.bool true) ∧ Ext Non w w' := by
  go_enter Try.func33, Try.ntmps33
  go_wp2_with fail
  refine (slots_New 0 (some ⟨w.heap.size, 0, none⟩) 4 [0, 1, 2, 3] lives14_conf _ (ints_box _ [0, 1, 2, 3] _ _ (Bx.newAt _ _ _ _ rfl) (by decide) (by intro x hx; simp at hx; unfold I64; omega))).mono ?_
  rintro e _ ⟨b, G, rfl, hL, hF, hx⟩
  obtain ⟨x1, rfl⟩ := hx.ew
  have HL := Go.Lib.hid hL
  have X1 : Ext Non w x1.on := by (repeat (first | with_reducible (first | exact Ext.refl _ _ | assumption | refine Ext.upN ?_ | refine Ext.alloc ?_ _ | refine Ext.drew ?_ | refine Ext.drewN ?_ _ | refine Ext.up1N (by first | omega | simp) ?_) | refine Ext.alloc ?_ _ | refine Ext.setCell ?_ (.inr (by first | omega | simp)) _))
  have HF : Hid (∀ j, LoF b G j → w.heap.size ≤ j) := Go.Lib.hid (fun j hj => by have := hF j hj; simp at this; omega)
  clear hL hF hx
  go_wp2_with fail
  refine (log_Propose b G (newLo 0 [0, 1, 2, 3]) 2 (i64_lit (by decide) (by decide)) 0 0 0 ByteArray.empty 0 0 nullR_ok _ HL.out).mono ?_
  rintro e _ ⟨rfl, G1, hL1, hG1, hx⟩
  obtain ⟨x2, hx2⟩ := (X1.own hx (fun k e => HF.out k (.inl e))).ew
  subst hx2
  have HL1 : Hid (LoW x2.on b G1 (gAt 0)) := Go.Lib.hid hL1
  have HF1 := Go.Lib.hid (lof_step HF.out hG1 X1.size)
  rw [show proposeE (newLo 0 [0, 1, 2, 3]) 2 ⟨0, 0, ⟨0, ByteArray.empty, 0, 0⟩⟩ = 0 from lives14_a]
  clear hL1 hG1 hx HL HF X1
  go_wp2_with fail
  go_loopg [3] 3 (fun g iv wr => ∃ (k : Nat) (G : Nat → Prop) (z : EW Non w), k ≤ 3 ∧ g = 3 - k ∧ iv = .int .i64 k ∧ wr = z.on ∧ Hid (LoW wr b G (gAt k)) ∧ Hid (∀ j, LoF b G j → w.heap.size ≤ j))
  case atStart => exact ⟨0, G1, ⟨_, by (repeat (first | with_reducible (first | exact Ext.refl _ _ | assumption | refine Ext.upN ?_ | refine Ext.alloc ?_ _ | refine Ext.drew ?_ | refine Ext.drewN ?_ _ | refine Ext.up1N (by first | omega | simp) ?_) | refine Ext.alloc ?_ _ | refine Ext.setCell ?_ (.inr (by first | omega | simp)) _))⟩, by omega, rfl, rfl, rfl, HL1, HF1⟩
  case round =>
    clear HL1 HF1
    obtain ⟨k, G, z, hk, hg, rfl, rfl, HL, HF⟩ := hrel
    have HG := Go.Lib.hid hg; clear hg
    by_cases hlt : k < 3
    · have HP := Go.Lib.hid (lives14_p k hlt); have HC := Go.Lib.hid (lives14_c k hlt)
      have hik : I64 (k : Int) := by unfold I64; omega
      have hps := prepS_size 0 0 2 nullR
      go_wp2_with fail
      refine Calls.ew (op_sig 0 k 2 0 0 0 0 ByteArray.empty 0 0 false 0 0 ⟨i64_lit (by decide) (by decide), i64_lit (by decide) (by decide), i64_lit (by decide) (by decide)⟩ nullR_ok _) ?_
      rintro e x3 rfl
      rw [show stepT 0 0 2 ⟨0, 0, ⟨0, ByteArray.empty, (0 : Int).toNat, 0⟩⟩ false = prepS 0 0 2 nullR from rfl]
      have hgp : gP (gAt k) k = prepareG (gAt k) k 2 nullR k (prepS 0 0 2 nullR) := rfl
      have HGP := Go.Lib.hid hgp
      clear hgp
      generalize prepS 0 0 2 nullR = ptx at *
      go_wp2_with fail
      have HL3 := Go.Lib.hid (HL.out.extN (by (repeat (first | with_reducible (first | exact Ext.refl _ _ | assumption | refine Ext.upN ?_ | refine Ext.alloc ?_ _ | refine Ext.drew ?_ | refine Ext.drewN ?_ _ | refine Ext.up1N (by first | omega | simp) ?_) | refine Ext.alloc ?_ _ | refine Ext.setCell ?_ (.inr (by first | omega | simp)) _)) : Ext Non z.on x3.on))
      refine (log_Prepare b G (gAt k) k 2 hik (i64_lit (by decide) (by decide)) 0 0 0 ByteArray.empty 0 0 nullR_ok k ptx hik (by omega) _ HL3.out).mono ?_
      rintro e _ ⟨rfl, G2, hL2, hG2, hx⟩
      have Z3 : Ext Non w x3.on := by (repeat (first | with_reducible (first | exact Ext.refl _ _ | assumption | refine Ext.upN ?_ | refine Ext.alloc ?_ _ | refine Ext.drew ?_ | refine Ext.drewN ?_ _ | refine Ext.up1N (by first | omega | simp) ?_) | refine Ext.alloc ?_ _ | refine Ext.setCell ?_ (.inr (by first | omega | simp)) _))
      obtain ⟨x4, hx4⟩ := (Z3.own hx (fun k e => HF.out k e)).ew
      subst hx4
      have HL4 : Hid (LoW x4.on b G2 (gP (gAt k) k)) := Go.Lib.hid (by rw [HGP.out]; exact hL2)
      have HF4 := Go.Lib.hid (lof_step HF.out hG2 Z3.size)
      rw [show prepareE (gAt k) k 2 ⟨0, 0, ⟨0, ByteArray.empty, 0, 0⟩⟩ k ptx = 0 from HP.out]
      clear hL2 hG2 hx HL3 HL HF
      go_wp2_with fail
      refine (log_Commit b G2 (gP (gAt k) k) k 2 hik (i64_lit (by decide) (by decide)) 0 0 0 ByteArray.empty 0 0 nullR_ok _ HL4.out).mono ?_
      rintro e _ ⟨rfl, G3, hL3, hG3, hx⟩
      have Z4 : Ext Non w x4.on := x4.ext
      obtain ⟨x5, hx5⟩ := (Z4.own hx (fun k e => HF4.out k e)).ew
      subst hx5
      have HL5 : Hid (LoW x5.on b G3 (gAt (k + 1))) := Go.Lib.hid hL3
      have HF5 := Go.Lib.hid (lof_step HF4.out hG3 Z4.size)
      rw [show commitE (gP (gAt k) k) k 2 ⟨0, 0, ⟨0, ByteArray.empty, 0, 0⟩⟩ = 0 from HC.out]
      clear hL3 hG3 hx HL4 HF4
      go_wp2_with fail
      go_roundg (3 - (k + 1))
      case measure => have := HG.out; omega
      case rel => exact ⟨k + 1, G3, x5, by omega, rfl, by go_num, rfl, HL5, HF5⟩
    · obtain rfl : k = 3 := by omega
      have D := Go.Lib.hid lives14_d; have E1 := Go.Lib.hid lives14_e; have F1 := Go.Lib.hid lives14_f; have S1 := Go.Lib.hid lives14_g
      go_wp2_with fail
      refine Calls.ew (log_Committed b G (gAt 3) 2 (i64_lit (by decide) (by decide)) _ HL.out) ?_
      rintro e x3 rfl
      rw [show toldV (committedO (gAt 3) 2) = .tuple #[reqV ((committedO (gAt 3) 2).getD nullR), .bool true] by unfold toldV; rw [D.out]]
      generalize (committedO (gAt 3) 2).getD nullR = fr at *
      obtain ⟨fc, fst, ⟨fk, fkey, fx, fid⟩⟩ := fr
      unfold reqV
      have HL3 := Go.Lib.hid (fun (w' : World) (x : Ext Non z.on w') => HL.out.extN x)
      go_wp2_with fail
      refine Calls.ew (log_Prepared b G (gAt 3) 2 (i64_lit (by decide) (by decide)) _ (HL3.out _ (by (repeat (first | with_reducible (first | exact Ext.refl _ _ | assumption | refine Ext.upN ?_ | refine Ext.alloc ?_ _ | refine Ext.drew ?_ | refine Ext.drewN ?_ _ | refine Ext.up1N (by first | omega | simp) ?_) | refine Ext.alloc ?_ _ | refine Ext.setCell ?_ (.inr (by first | omega | simp)) _))))) ?_
      rintro e x4 rfl
      rw [E1.out]
      go_wp2_with fail
      refine (log_Certs b G (gAt 3) _ (HL3.out _ (by (repeat (first | with_reducible (first | exact Ext.refl _ _ | assumption | refine Ext.upN ?_ | refine Ext.alloc ?_ _ | refine Ext.drew ?_ | refine Ext.drewN ?_ _ | refine Ext.up1N (by first | omega | simp) ?_) | refine Ext.alloc ?_ _ | refine Ext.setCell ?_ (.inr (by first | omega | simp)) _)))) lives14_i).mono ?_
      rintro e _ ⟨ra, rc, rfl, hC, hx⟩
      obtain ⟨x5, rfl⟩ := hx.ew
      rw [F1.out]
      clear hC hx
      go_wp2_with fail
      refine Calls.ew (log_Size b G (gAt 3) _ (HL3.out _ (by (repeat (first | with_reducible (first | exact Ext.refl _ _ | assumption | refine Ext.upN ?_ | refine Ext.alloc ?_ _ | refine Ext.drew ?_ | refine Ext.drewN ?_ _ | refine Ext.up1N (by first | omega | simp) ?_) | refine Ext.alloc ?_ _ | refine Ext.setCell ?_ (.inr (by first | omega | simp)) _)))) lives14_h) ?_
      rintro e x6 rfl
      rw [S1.out]
      go_wp2
      go_ret
      exact ⟨rfl, by (repeat (first | with_reducible (first | exact Ext.refl _ _ | assumption | refine Ext.upN ?_ | refine Ext.alloc ?_ _ | refine Ext.drew ?_ | refine Ext.drewN ?_ _ | refine Ext.up1N (by first | omega | simp) ?_) | refine Ext.alloc ?_ _ | refine Ext.setCell ?_ (.inr (by first | omega | simp)) _))⟩
end Go.Proofs.Ytakbkpklfihfiaa

/- The law SlotsNil: the walk. -/
namespace Go.Proofs.Ytakbkpklfihfiaa
open Go.RowKit Go.Lib F64
set_option linter.unusedSimpArgs false
set_option linter.unusedVariables false
attribute [local go_sem] run_store_float
attribute [local go_sem low] EW.cellN EW.frozN alloc_cell_or alloc_froz_or EW.cellF EW.frozF EW.cell1 EW.froz1
section
open Go.ChangeShapes Go.WideShapes
variable {H : Type} {enc : TypeId × Value → H} {W : World} {base n : Nat} {spare : Nat → Bool} {held : Bool}
theorem read_bool14 {cs : List Value} {x : DataW H × List MemPlace} (h : DataW.trod enc Try.prog W base spare held n 4 cs = some x) : ∃ k : Bool, cs = [.bool k] := by
  obtain ⟨k, e, _⟩ := DataW.trod_bool Try.underlying4 h
  exact ⟨k, e⟩
theorem c_bool : (Try.prog).cellsOf 4 = 1 := by kernel_rfl
theorem c_op14 : (Try.prog).cellsOf 75 = 11 := by kernel_rfl
/-- A step, as it comes in. -/
structure Stp where
  kind : Int
  from_ : Int
  slot : Int
  view : Int
  c : Int
  s : Int
  k : Int
  key : ByteArray
  b : Int
  id : Int
  wrong : Bool
def Stp.cells (o : Stp) : List Value := [.int .i64 o.kind, .int .i64 o.from_, .int .i64 o.slot, .int .i64 o.view, .int .i64 o.c, .int .i64 o.s, .int .i64 o.k, .string o.key, .int .u64 o.b, .int .i64 o.id, .bool o.wrong]
def Stp.req (o : Stp) : Req := ⟨o.c, o.s, ⟨o.k, o.key, o.b.toNat, o.id⟩⟩
def Stp.ok (o : Stp) : Prop := I64 o.kind ∧ I64 o.from_ ∧ I64 o.slot ∧ I64 o.view ∧ ReqOk o.req
theorem read_op14 {cs : List Value} {x : DataW H × List MemPlace} (h : DataW.trod enc Try.prog W base spare held n 75 cs = some x) : ∃ o : Stp, cs = o.cells ∧ o.ok := by
  obtain ⟨hl, hf⟩ := read_struct Try.underlying75 h
  have hl : cs.length = 11 := hl.trans c_op14
  match cs, hl with
  | [v0, v1, v2, v3, v4, v5, v6, v7, v8, v9, v10], _ =>
    obtain ⟨_, _, h0⟩ := hf 0 _ 3 0 1 rfl rfl rfl c_int
    obtain ⟨_, _, h1⟩ := hf 1 _ 3 1 1 rfl rfl rfl c_int
    obtain ⟨_, _, h2⟩ := hf 2 _ 3 2 1 rfl rfl rfl c_int
    obtain ⟨_, _, h3⟩ := hf 3 _ 3 3 1 rfl rfl rfl c_int
    obtain ⟨_, _, h4⟩ := hf 4 _ 57 4 6 rfl rfl rfl c_ask
    obtain ⟨_, _, h5⟩ := hf 5 _ 4 10 1 rfl rfl rfl c_bool
    obtain ⟨k0, e0, w0⟩ := read_int h0
    obtain ⟨k1, e1, w1⟩ := read_int h1
    obtain ⟨k2, e2, w2⟩ := read_int h2
    obtain ⟨k3, e3, w3⟩ := read_int h3
    obtain ⟨kc, ks, kk, key, bits, kid, e4, w4⟩ := read_ask h4
    obtain ⟨k5, e5⟩ := read_bool14 h5
    simp at e0 e1 e2 e3 e4 e5
    obtain ⟨rfl, rfl, rfl, rfl, rfl, rfl⟩ := e4
    subst e0; subst e1; subst e2; subst e3; subst e5
    exact ⟨⟨k0, k1, k2, k3, kc, ks, kk, key, bits, kid, k5⟩, rfl, w0, w1, w2, w3, w4⟩
end
end Go.Proofs.Ytakbkpklfihfiaa
