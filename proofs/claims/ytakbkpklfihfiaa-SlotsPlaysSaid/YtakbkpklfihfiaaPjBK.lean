/- Joined texts: SlotsStays14. What each proves stands at its head; no conditions beside those in its theorems. -/
import Derived.Test.YtakbkpklfihfiaaPjAX
import Derived.Test.YtakbkpklfihfiaaPjBI
/- The law SlotsStays: the walk. -/
namespace Go.Proofs.Ytakbkpklfihfiaa
open Go.RowKit Go.Lib F64
set_option linter.unusedSimpArgs false
set_option linter.unusedVariables false
attribute [local go_sem] run_store_float
attribute [local go_sem low] EW.cellN EW.frozN alloc_cell_or alloc_froz_or EW.cellF EW.frozF EW.cell1 EW.froz1
attribute [local go_sem] relAt relUpon
theorem whole_refl (r : Req) : wholeB r r = true := by unfold wholeB; simp
theorem sigsEq_refl : ∀ l : List Sg, sigsEq l l = true
  | [] => rfl
  | s :: t => by unfold sigsEq sgEq; rw [sigsEq_refl t]; simp
theorem certsEq_refl : ∀ l : List Ct, certsEq l l = true
  | [] => rfl
  | c :: t => by unfold certsEq certEq; rw [certsEq_refl t, whole_refl, sigsEq_refl]; simp
theorem told_parts (o : Option Req) : ∃ c s k key x id d, toldV o = .tuple #[.agg #[.int .i64 c, .int .i64 s, .int .i64 k, .string key, .float .f64 x, .int .i64 id], .bool d] ∧ o.getD nullR = ⟨c, s, ⟨k, key, x, id⟩⟩ ∧ d = o.isSome := by
  unfold toldV reqV
  generalize o.getD nullR = r
  obtain ⟨c, s, ⟨k, key, x, id⟩⟩ := r
  exact ⟨c, s, k, key, x, id, _, rfl, rfl, rfl⟩
/-- A guard whose own operation was not wanted. -/
theorem unwanted_und {full : List Oper} {o : Oper} {a : Act} {j d : Nat} {b : Bool} (hg : o.guard = some (j, b)) (hj : (full[j]?).bind (·.dst) = some d) (hv : a.tmps[d]?.getD undef = undef) : Region.wanted o (yielded full.toArray a.tmps) = false := by
  have hn : ∀ c : Bool, a.tmps[d]? ≠ some (.bool c) := fun c e => by rw [e] at hv; cases hv
  have hy : yielded full.toArray a.tmps j = none := by
    unfold yielded
    have : ((full.toArray)[j]?).bind (·.dst) = some d := by simpa using hj
    rw [this]
    cases h : a.tmps[d]? with
    | none => simp [h]
    | some u => cases u <;> simp [h] <;> exact (hn _ h).elim
  unfold Region.wanted
  rw [hg]
  show (yielded full.toArray a.tmps j == some b) = false
  rw [hy]
  rfl
def moCs (l : List Ct) : Mo := ⟨fun v w => ∃ a cap, v = .slice a l.length cap ∧ Certs w a cap l, fun _ _ _ x ⟨g, c, e, h⟩ => ⟨g, c, e, h.extN x⟩⟩
theorem info_req6' : (Try.prog.info? 49).map (·.size) = some 6 := by kernel_rfl
theorem sized_ext (b : Nat) (G : Nat → Prop) (g : Lo) (n : Nat) (h0 : n = sizeG g) (w : World) (h : LoW w b G g) (hf : FewB g) : Calls Try.prog 40 #[.pointer (some ⟨b, 0, none⟩)] w fun e w' => e = .returned (.int .i64 n) ∧ Ext Non w w' := by
  subst h0; exact log_Size b G g w h hf
theorem viewd_ext (b : Nat) (G : Nat → Prop) (g : Lo) (v : Int) (h0 : v = g.view) (w : World) (h : LoW w b G g) : Calls Try.prog 41 #[.pointer (some ⟨b, 0, none⟩)] w fun e w' => e = .returned (.int .i64 v) ∧ Ext Non w w' := by
  subst h0; exact (log_View b G g w h).mono fun e w' ⟨he, hx⟩ => ⟨he, by subst hx; exact Ext.refl _ _⟩
end Go.Proofs.Ytakbkpklfihfiaa
