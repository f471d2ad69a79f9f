/- Joined texts: R14g. What each proves stands at its head; no conditions beside those in its theorems. -/
import Derived.Laws.CopyOwn
import Derived.Deep.OwnRows
import Derived.Deep.RegionLaw
import Derived.Test.YtakbkpklfihfiaaPjBP
/- The reference of layer 14: New, Enter, Size, may. -/
namespace Go.Proofs.Ytakbkpklfihfiaa
open Go.RowKit Go.Lib F64
set_option linter.unusedSimpArgs false
set_option linter.unusedVariables false
attribute [local go_sem] run_store_float
attribute [local go_sem low] EW.cellN EW.frozN alloc_cell_or alloc_froz_or EW.cellF EW.frozF EW.cell1 EW.froz1
attribute [local go_sem] relAt relUpon
theorem rel_append_some14 {P : Program} {o : Oper} {a : Act} {w : World} {R : Value → World → Prop} (s x : Operand) (t : TypeId) (ho : o.op = .call { callee := .builtin .append, args := #[s, x], argTypes := #[t, t] })
    (e : TypeId) (size bytes : Nat) (z : Value) (ht : P.underlying t = some (.slice e)) (hi : (P.info? e).map (fun i => (i.zero, i.size, i.bytes)) = some (some z, size, bytes)) (hzs : z.cells.size = size) (hsz : 0 < size)
    (hs : a.eval s = .slice none 0 0) (ad : Addr) (m c : Nat) (news : List Value) (hx : a.eval x = .slice (some ad) m c) (hnews : ∀ j u, news[j]? = some u → w.cell? (ad.add j) = some u) (hl : news.length = m * size) (h1 : ∀ u ∈ news, u.oneCell' = true)
    (hn : m * bytes ≤ 140737488355328) (hn2 : m ≤ 9223372036854775807)
    (h : ∀ v' w', Ext Non w w' → w'.ownsRow w.heap.size e size v' m news → R v' w') : relAt P o a w R := by
  obtain ⟨i, hi0, hi1, hi2, hi3⟩ := info_parts hi
  obtain ⟨v', w', hr, h2, h3, -, -⟩ := run_append_own_at (P := P) (w := w) w.heap.size t o.type e i z size bytes ht hi0 hi1 hi2 hi3 hzs hsz (.slice none 0 0) 0 [] (World.ownsRow_nil _ _ _ _) ad m c news hl hnews h1 (by unfold maxLen; omega) (by rw [Nat.zero_add]; exact hn) (Nat.le_refl _)
  rw [Nat.zero_add, List.nil_append] at h2
  have hx3 : Ext Non w w' := Ext.ofGrown h3 fun q hq => by cases hq
  unfold relAt execOp
  simp only [ho, resolve, invoke, builtin, Sem.run_bind, Sem.run_pure, Result.andThen_ok, List.map_toArray, List.map_cons, List.map_nil, hs, hx, hr]
  exact ⟨hx3, h _ _ hx3 h2⟩
theorem ic_news14 {w : World} {a : Option Addr} {cap : Nat} {xs : List Int} (h : Ints w a cap xs) {ad : Addr} (e : a = some ad) : ∀ j u, (xs.map (Value.int .i64))[j]? = some u → w.cell? (ad.add j) = some u := fun j u hu => by
  have hj : j < xs.length := by have := (List.getElem?_eq_some_iff.1 hu).1; rwa [List.length_map] at this
  obtain ⟨b, o, e2, hc, _⟩ := h.at_ j hj
  rw [e] at e2; injection e2 with e2; subst e2
  rw [List.getElem?_map, List.getElem?_eq_getElem hj] at hu
  rw [addr_add, hc]; exact hu
theorem ic_one14 (xs : List Int) : ∀ u ∈ xs.map (Value.int .i64), u.oneCell' = true := fun u hu => by
  obtain ⟨x, _, rfl⟩ := List.mem_map.1 hu
  rfl
theorem info_int14 : (Try.prog.info? 3).map (fun i => (i.zero, i.size, i.bytes)) = some (some (.int .i64 0), 1, 8) := by kernel_rfl
theorem slotB_ok (ep n : Int) : slotB ep n = slotOk ep n := by
  unfold slotB slotOk
  rw [Bool.eq_iff_iff]
  simp only [Bool.and_eq_true, decide_eq_true_eq]
  omega
/-- A view is entered. -/
theorem R14Q.enter {w : World} {b : Nat} {G S : Nat → Prop} {m : RL14} {a : Option Addr} {c : Nat} {v1 v2 v3 v4 : Value} {ka : List CtR} (Q : R14Q w b G S m a c v1 v2 v3 v4 ka) (view : Int) :
    R14Q (((w.setCell ⟨b, 2, none⟩ (.int .i64 view)).setCell ⟨b, 3, none⟩ (.slice none 0 0)).setCell ⟨b, 4, none⟩ (.slice none 0 0)) b G S { m with view := view, props := [], votes := [] } a c (.slice none 0 0) (.slice none 0 0) v3 v4 ka := by
  have x : Ext (One b) w (((w.setCell ⟨b, 2, none⟩ (.int .i64 view)).setCell ⟨b, 3, none⟩ (.slice none 0 0)).setCell ⟨b, 4, none⟩ (.slice none 0 0)) := (((Ext.refl _ _).set1 _).trans ((Ext.refl _ _).set1 _)).trans ((Ext.refl _ _).set1 _)
  have no : ∀ k, G k → ¬ One b k := fun k h e => Q.nb (by have e : k = b := e; rw [← e]; exact h)
  obtain ⟨l1, l2, l3, l4⟩ := Q.low
  have rn : ∀ k, ¬ Row (.slice none 0 0) k := fun k q => by cases q
  exact ⟨((Q.bx.set (j := 2) _).set (j := 3) _).set (j := 4) _, Q.ints.ext x (fun k o e => no k (Q.sG k (Q.ia k o e))), Q.ia, World.ownsRow_nil _ _ _ _, World.ownsRow_nil _ _ _ _, ownR_ext Q.o3 x (fun k h => no k (l3 k h)), ownR_ext Q.o4 x (fun k h => no k (l4 k h)), Q.km,
    fun q hq => ⟨(Q.ck q hq).1.ext x (fun k o e => no k (Q.sG k ((Q.ck q hq).2 k o e))), (Q.ck q hq).2⟩, Q.sG,
    fun k h => by rcases h with h | h | h | h; exact (rn k h).elim; exact (rn k h).elim; exact l3 k h; exact l4 k h,
    fun k h => by rcases h with h | h | h | h; exact (rn k h).elim; exact (rn k h).elim; exact Q.rS k (.inr (.inr (.inl h))); exact Q.rS k (.inr (.inr (.inr h))),
    fun k h => (rn k h).elim, Q.nb, fun k h => Nat.lt_of_lt_of_le (Q.lt k h) x.size, fun p hp => (List.not_mem_nil hp).elim, fun p hp => (List.not_mem_nil hp).elim, Q.e4⟩
set_option maxHeartbeats 2000000 in
set_option maxRecDepth 100000 in
theorem ref14_Enter (b : Nat) (G : Nat → Prop) (m : RL14) (view : Int) (w : World) (h : R14W w b G m) : Calls Try.prog 88 #[.pointer (some ⟨b, 0, none⟩), .int .i64 view] w fun e w' =>
    e = .returned (.int .i64 (enterRE m view)) ∧ R14W w' b G (enterR m view) ∧ Ext (One b) w w' := by
  have HL := Go.Lib.hid h
  obtain ⟨S, a, c, v1, v2, v3, v4, ka, Q⟩ := h.ex
  have HQ := Go.Lib.hid Q
  have c2 := Q.c2
  have c3 := Q.c3
  have c4 := Q.c4
  have f2 : w.frozen? ⟨b, 2, none⟩ = false := Q.fz 2
  have f3 : (w.setCell ⟨b, 2, none⟩ (.int .i64 view)).frozen? ⟨b, 3, none⟩ = false := froz_of_heap (Q.bx.set (j := 2) _).h
  have f4 : ((w.setCell ⟨b, 2, none⟩ (.int .i64 view)).setCell ⟨b, 3, none⟩ (.slice none 0 0)).frozen? ⟨b, 4, none⟩ = false := froz_of_heap ((Q.bx.set (j := 2) _).set (j := 3) _).h
  have DE : Hid (enterRE m view = if view ≤ m.view ∨ 15 < view then 13 else 0) := Go.Lib.hid rfl
  have DG : Hid (enterR m view = if enterRE m view = 0 then { m with view := view, props := [], votes := [] } else m) := Go.Lib.hid rfl
  clear Q h
  by_cases h1 : view ≤ m.view
  · have HE : Hid (enterRE m view = 13) := Go.Lib.hid (by rw [DE.out, if_pos (.inl h1)])
    go_enter Try.func88, Try.ntmps88
    go_wp2
    go_ret
    exact ⟨ret_int HE.out.symm, by rw [DG.out, HE.out, if_neg (by decide)]; exact HL.out, Ext.refl _ _⟩
  · by_cases h2 : 15 < view
    · have HE : Hid (enterRE m view = 13) := Go.Lib.hid (by rw [DE.out, if_pos (.inr h2)])
      go_enter Try.func88, Try.ntmps88
      go_wp2
      go_ret
      exact ⟨ret_int HE.out.symm, by rw [DG.out, HE.out, if_neg (by decide)]; exact HL.out, Ext.refl _ _⟩
    · have HE : Hid (enterRE m view = 0) := Go.Lib.hid (by rw [DE.out, if_neg (by omega)])
      go_enter Try.func88, Try.ntmps88
      go_wp2
      go_ret
      exact ⟨ret_int HE.out.symm, by rw [DG.out, HE.out, if_pos rfl]; exact ⟨_, _, _, _, _, _, _, _, HQ.out.enter view⟩, (((Ext.refl _ _).set1 _).trans ((Ext.refl _ _).set1 _)).trans ((Ext.refl _ _).set1 _)⟩
set_option maxHeartbeats 2000000 in
set_option maxRecDepth 100000 in
theorem ref14_Size (b : Nat) (G : Nat → Prop) (m : RL14) (n : Nat) (hn : n = sizeR m) (hf : Few14 m) (w : World) (h : R14W w b G m) : Calls Try.prog 92 #[.pointer (some ⟨b, 0, none⟩)] w fun e w' => e = .returned (.int .i64 n) ∧ Ext Non w w' := by
  obtain ⟨S, a, c, v1, v2, v3, v4, ka, Q⟩ := h.ex
  have HN : Hid (n = m.props.length + m.votes.length) := Go.Lib.hid hn
  obtain ⟨a1, c1, hv1⟩ := row_slice Q.o1
  obtain ⟨a2, c2, hv2⟩ := row_slice Q.o2
  subst hv1
  subst hv2
  have q3 := Q.c3
  have q4 := Q.c4
  have h1 := hf.props
  have h2 := hf.votes
  clear Q h hn hf
  generalize m.props.length = l1 at *
  generalize m.votes.length = l2 at *
  have hw : IntKind.i64.wrap ((l1 : Int) + (l2 : Int)) = (l1 : Int) + (l2 : Int) := IntWalk.i64_in _ (by omega)
  go_enter Try.func92, Try.ntmps92
  go_upto_region 1 with fail
  (refine wp_region_ext_lit (by kernel_rfl) (by kernel_rfl) ?_; (repeat (go_big_quiet_step ((fail)))); refine wpQuiet_nil ?_; intro _ hw'; obtain ⟨xq, hw''⟩ := hw'; subst hw'')
  go_wp2
  go_ret
  exact ⟨ret_int (by rw [HN.out]; push_cast; rfl), by (repeat (first | with_reducible (first | exact Ext.refl _ _ | assumption | refine Ext.upN ?_ | refine Ext.alloc ?_ _ | refine Ext.drew ?_ | refine Ext.drewN ?_ _ | refine Ext.up1N (by first | omega | simp) ?_) | refine Ext.alloc ?_ _ | refine Ext.setCell ?_ (.inr (by first | omega | simp)) _))⟩
set_option maxHeartbeats 2000000 in
set_option maxRecDepth 100000 in
theorem ref14_may (b : Nat) (G : Nat → Prop) (m : RL14) (f n : Int) (c s k : Int) (key : ByteArray) (x : Nat) (id : Int) (hep : 0 ≤ m.ep ∧ m.ep ≤ 60) (w : World) (h : R14W w b G m) :
    Calls Try.prog 124 #[.pointer (some ⟨b, 0, none⟩), .int .i64 f, .int .i64 n, .agg #[.int .i64 c, .int .i64 s, .int .i64 k, .string key, .float .f64 x, .int .i64 id]] w fun e w' =>
    e = .returned (.int .i64 (mayRE m f n ⟨c, s, ⟨k, key, x, id⟩⟩)) ∧ Ext Non w w' := by
  obtain ⟨S, a, cc, v1, v2, v3, v4, ka, Q⟩ := h.ex
  have c0 := Q.c0
  have c1 := Q.c1
  have HI := Go.Lib.hid Q.ints
  have HEP := Go.Lib.hid hep
  have hbw := Q.bx.lt
  clear Q h hep
  have HE : Hid (mayRE m f n ⟨c, s, ⟨k, key, x, id⟩⟩ = if askedB ⟨c, s, ⟨k, key, x, id⟩⟩ = true then (if slotOk m.ep n = true then (if hasB m.mem f = true then 0 else 8) else 14) else 1) := Go.Lib.hid rfl
  have KA := Go.Lib.hid (fun w' => ref13_Asked c s k key x id w')
  have KO := Go.Lib.hid (fun w' => ref13_Of m.ep n HEP.out w')
  rw [slotB_ok] at KO
  have KH := Go.Lib.hid (fun w' (x : Ext Non w w') => ref_Has a cc m.mem f w' (HI.out.extN x))
  cases ha : askedB ⟨c, s, ⟨k, key, x, id⟩⟩ with
  | false =>
    rw [ha] at HE KA
    go_enter Try.func124, Try.ntmps124
    go_wp2_with fail
    refine Calls.ew (KA.out _) ?_
    rintro e x1 rfl
    go_wp2
    go_ret
    exact ⟨ret_int (by rw [HE.out]; rfl), by (repeat (first | with_reducible (first | exact Ext.refl _ _ | assumption | refine Ext.upN ?_ | refine Ext.alloc ?_ _ | refine Ext.drew ?_ | refine Ext.drewN ?_ _ | refine Ext.up1N (by first | omega | simp) ?_) | refine Ext.alloc ?_ _ | refine Ext.setCell ?_ (.inr (by first | omega | simp)) _))⟩
  | true =>
    rw [ha] at HE KA
    cases hs : slotOk m.ep n with
    | false =>
      rw [hs] at HE KO
      go_enter Try.func124, Try.ntmps124
      go_wp2_with fail
      refine Calls.ew (KA.out _) ?_
      rintro e x1 rfl
      go_wp2_with fail
      refine (KO.out _).mono ?_
      rintro e _ ⟨rfl, rfl⟩
      go_wp2
      go_ret
      exact ⟨ret_int (by rw [HE.out]; rfl), by (repeat (first | with_reducible (first | exact Ext.refl _ _ | assumption | refine Ext.upN ?_ | refine Ext.alloc ?_ _ | refine Ext.drew ?_ | refine Ext.drewN ?_ _ | refine Ext.up1N (by first | omega | simp) ?_) | refine Ext.alloc ?_ _ | refine Ext.setCell ?_ (.inr (by first | omega | simp)) _))⟩
    | true =>
      rw [hs] at HE KO
      cases hm : hasB m.mem f with
      | false =>
        rw [hm] at HE KH
        go_enter Try.func124, Try.ntmps124
        go_wp2_with fail
        refine Calls.ew (KA.out _) ?_
        rintro e x1 rfl
        go_wp2_with fail
        refine (KO.out _).mono ?_
        rintro e _ ⟨rfl, rfl⟩
        go_wp2_with fail
        refine Calls.ewD (KH.out _ (by (repeat (first | with_reducible (first | exact Ext.refl _ _ | assumption | refine Ext.upN ?_ | refine Ext.alloc ?_ _ | refine Ext.drew ?_ | refine Ext.drewN ?_ _ | refine Ext.up1N (by first | omega | simp) ?_) | refine Ext.alloc ?_ _ | refine Ext.setCell ?_ (.inr (by first | omega | simp)) _)))) ?_
        rintro e x2 rfl
        go_wp2
        go_ret
        exact ⟨ret_int (by rw [HE.out]; rfl), by (repeat (first | with_reducible (first | exact Ext.refl _ _ | assumption | refine Ext.upN ?_ | refine Ext.alloc ?_ _ | refine Ext.drew ?_ | refine Ext.drewN ?_ _ | refine Ext.up1N (by first | omega | simp) ?_) | refine Ext.alloc ?_ _ | refine Ext.setCell ?_ (.inr (by first | omega | simp)) _))⟩
      | true =>
        rw [hm] at HE KH
        go_enter Try.func124, Try.ntmps124
        go_wp2_with fail
        refine Calls.ew (KA.out _) ?_
        rintro e x1 rfl
        go_wp2_with fail
        refine (KO.out _).mono ?_
        rintro e _ ⟨rfl, rfl⟩
        go_wp2_with fail
        refine Calls.ewD (KH.out _ (by (repeat (first | with_reducible (first | exact Ext.refl _ _ | assumption | refine Ext.upN ?_ | refine Ext.alloc ?_ _ | refine Ext.drew ?_ | refine Ext.drewN ?_ _ | refine Ext.up1N (by first | omega | simp) ?_) | refine Ext.alloc ?_ _ | refine Ext.setCell ?_ (.inr (by first | omega | simp)) _)))) ?_
        rintro e x2 rfl
        go_wp2
        go_ret
        exact ⟨ret_int (by rw [HE.out]; rfl), by (repeat (first | with_reducible (first | exact Ext.refl _ _ | assumption | refine Ext.upN ?_ | refine Ext.alloc ?_ _ | refine Ext.drew ?_ | refine Ext.drewN ?_ _ | refine Ext.up1N (by first | omega | simp) ?_) | refine Ext.alloc ?_ _ | refine Ext.setCell ?_ (.inr (by first | omega | simp)) _))⟩
set_option maxHeartbeats 2000000 in
set_option maxRecDepth 100000 in
theorem ref14_New_no (ep : Int) (a : Option Addr) (cap : Nat) (xs : List Int) (hc : confB ep xs = false) (w : World) (h : Ints w a cap xs) : Calls Try.prog 44 #[.agg #[.int .i64 ep, .slice a xs.length cap]] w fun e w' =>
    e = .returned (.tuple #[.pointer none, .int .i64 1]) ∧ Ext Non w w' := by
  have HI := Go.Lib.hid h
  clear h
  go_enter Try.func44, Try.ntmps44
  go_wp2_with fail
  refine Calls.ew (ref_Right07 ep a cap xs _ (HI.out.extN (by (repeat (first | with_reducible (first | exact Ext.refl _ _ | assumption | refine Ext.upN ?_ | refine Ext.alloc ?_ _ | refine Ext.drew ?_ | refine Ext.drewN ?_ _ | refine Ext.up1N (by first | omega | simp) ?_) | refine Ext.alloc ?_ _ | refine Ext.setCell ?_ (.inr (by first | omega | simp)) _))))) ?_
  rintro e x1 rfl
  rw [hc]
  clear hc
  go_wp2
  go_returns
  exact ⟨rfl, by (repeat (first | with_reducible (first | exact Ext.refl _ _ | assumption | refine Ext.upN ?_ | refine Ext.alloc ?_ _ | refine Ext.drew ?_ | refine Ext.drewN ?_ _ | refine Ext.up1N (by first | omega | simp) ?_) | refine Ext.alloc ?_ _ | refine Ext.setCell ?_ (.inr (by first | omega | simp)) _))⟩
def moR14 (base : Nat) (ep : Int) (xs : List Int) : Mo := ⟨fun v w => ∃ g a c, v = .pointer (some ⟨g, 0, none⟩) ∧ base ≤ g ∧ Bx w g (rowR14 ep a xs.length c 0 (.slice none 0 0) (.slice none 0 0) (.slice none 0 0) (.slice none 0 0)) 138 ∧ Ints w a c xs ∧ fresh base w a,
  fun _ _ _ x ⟨g, a, c, e, l, r, h, f⟩ => ⟨g, a, c, e, l, r.extN x, h.extN x, f.extN x⟩⟩
set_option maxHeartbeats 2000000 in
set_option maxRecDepth 100000 in
theorem ref14_New (ep : Int) (a : Option Addr) (cap : Nat) (xs : List Int) (hc : confB ep xs = true) (w : World) (h : Ints w a cap xs) : Calls Try.prog 44 #[.agg #[.int .i64 ep, .slice a xs.length cap]] w fun e w' =>
    ∃ b G, e = .returned (.tuple #[.pointer (some ⟨b, 0, none⟩), .int .i64 0]) ∧ R14W w' b G (newR ep xs) ∧ (∀ k, LoF b G k → w.heap.size ≤ k) ∧ Ext Non w w' := by
  have HI := Go.Lib.hid h
  have HC := Go.Lib.hid hc
  have hl := (conf_len10 hc).2
  have hl4 : 4 ≤ xs.length := by have := conf_len10 hc; omega
  have H64 : Hid (∀ x ∈ xs, I64 x) := Go.Lib.hid (fun x hx => by
    have hm : membersB xs = true := by unfold confB at hc; simp at hc; exact hc.2
    have := (members_facts hm).1 x hx
    unfold I64; omega)
  obtain ⟨ab, ao, rfl, -⟩ := h.at_ 0 (by omega)
  clear h
  go_enter Try.func44, Try.ntmps44
  go_wp2_with fail
  have B0 := Go.Lib.hid (Bx.newAt w [.int .i64 ep, .slice (some ⟨ab, ao, none⟩) xs.length cap] 34 _ rfl)
  refine Calls.ew (ref_Right07 ep (some ⟨ab, ao, none⟩) cap xs _ (HI.out.extN (by (repeat (first | with_reducible (first | exact Ext.refl _ _ | assumption | refine Ext.upN ?_ | refine Ext.alloc ?_ _ | refine Ext.drew ?_ | refine Ext.drewN ?_ _ | refine Ext.up1N (by first | omega | simp) ?_) | refine Ext.alloc ?_ _ | refine Ext.setCell ?_ (.inr (by first | omega | simp)) _))))) ?_
  rintro e x1 rfl
  rw [hc]
  clear hc
  have X1 : Ext Non w x1.on := by (repeat (first | with_reducible (first | exact Ext.refl _ _ | assumption | refine Ext.upN ?_ | refine Ext.alloc ?_ _ | refine Ext.drew ?_ | refine Ext.drewN ?_ _ | refine Ext.up1N (by first | omega | simp) ?_) | refine Ext.alloc ?_ _ | refine Ext.setCell ?_ (.inr (by first | omega | simp)) _))
  have B1 := Go.Lib.hid (B0.out.extN x1.ext)
  have I1 := Go.Lib.hid (HI.out.extN X1)
  have c0 : x1.on.cell? ⟨w.heap.size, 0, none⟩ = some (.int .i64 ep) := B1.out.cell rfl
  have c1 : x1.on.cell? ⟨w.heap.size, 1, none⟩ = some (.slice (some ⟨ab, ao, none⟩) xs.length cap) := B1.out.cell rfl
  have HX1 := Go.Lib.hid X1
  have hx1 := X1.size
  clear X1 B0 HI
  go_upto_region 3 with fail
  apply wp_region_rel (relR [Mo.is _, Mo.is _, Mo.is _, Mo.is _, moS w.heap.size xs (fun s => s), moS w.heap.size xs (fun s => .agg #[.int .i64 ep, s]), moS w.heap.size xs (fun s => .agg #[.int .i64 ep, s, .int .i64 0, .slice none 0 0, .slice none 0 0, .slice none 0 0, .slice none 0 0]), moR14 w.heap.size ep xs, moR14 w.heap.size ep xs, Mo.is _]) (by kernel_rfl) (by kernel_rfl) (by kernel_rfl) (relR_mono _) (StepD.all ?st1) ?q1
  case st1 =>
    refine ⟨?_, ?_, ?_, ?_, ?_, ?_, ?_, ?_, ?_, ?_, trivial⟩
    · intro a' w' hx hs hd
      obtain ⟨y, rfl⟩ := hx.ew
      have e1 : a'.tmps[1]?.getD undef = _ := hs 1 rfl
      simp only [List.getElem?_toArray, List.getElem?_cons_succ, List.getElem?_cons_zero, Option.getD_some, Array.getElem?_eq_some_iff] at e1
      refine .inl ⟨rfl, ?_⟩
      clear hs hd hx
      go_simp
      exact ⟨Ext.refl _ _, rfl⟩
    · intro a' w' hx hs hd
      obtain ⟨y, rfl⟩ := hx.ew
      have e7 : a'.tmps[7]?.getD undef = _ := hd 0 7 rfl rfl
      refine .inl ⟨rfl, ?_⟩
      clear hs hd hx
      go_simp
      exact ⟨Ext.refl _ _, rfl⟩
    · intro a' w' hx hs hd
      obtain ⟨y, rfl⟩ := hx.ew
      have e1 : a'.tmps[1]?.getD undef = _ := hs 1 rfl
      simp only [List.getElem?_toArray, List.getElem?_cons_succ, List.getElem?_cons_zero, Option.getD_some, Array.getElem?_eq_some_iff] at e1
      refine .inl ⟨rfl, ?_⟩
      clear hs hd hx
      go_simp
      exact ⟨Ext.refl _ _, rfl⟩
    · intro a' w' hx hs hd
      obtain ⟨y, rfl⟩ := hx.ew
      have e9 : a'.tmps[9]?.getD undef = _ := hd 2 9 rfl rfl
      refine .inl ⟨rfl, ?_⟩
      clear hs hd hx
      go_simp
      exact ⟨Ext.refl _ _, rfl⟩
    · intro a' w' hx hs hd
      obtain ⟨y, rfl⟩ := hx.ew
      have e10 : a'.tmps[10]?.getD undef = _ := hd 3 10 rfl rfl
      refine .inl ⟨rfl, ?_⟩
      clear hs hd hx
      exact rel_append_some14 _ _ 32 rfl 3 1 8 _ Try.underlying32 info_int14 (by rfl) (by omega) rfl _ xs.length cap (xs.map (Value.int .i64)) ((eval_tmp _ _).trans e10) (ic_news14 (I1.out.extN y.ext) rfl) (by rw [List.length_map]; omega) (ic_one14 xs) (by omega) (by omega) (fun v' w' x o => by obtain ⟨a, c, e, h1, h2⟩ := Ints.ofOwn o H64.out; exact ⟨a, c, e, h1, fun k o q => ⟨by have h3 := (h2 k o q).1; have h4 := (by (repeat (first | with_reducible (first | exact Ext.refl _ _ | assumption | refine Ext.upN ?_ | refine Ext.alloc ?_ _ | refine Ext.drew ?_ | refine Ext.drewN ?_ _ | refine Ext.up1N (by first | omega | simp) ?_) | refine Ext.alloc ?_ _ | refine Ext.setCell ?_ (.inr (by first | omega | simp)) _)) : Ext Non x1.on y.on).size; omega, (h2 k o q).2⟩⟩)
    · intro a' w' hx hs hd
      obtain ⟨y, rfl⟩ := hx.ew
      have e8 : a'.tmps[8]?.getD undef = _ := hd 1 8 rfl rfl
      obtain ⟨sa, sc, e11, hI, hf⟩ : ∃ sa sc, a'.tmps[11]?.getD undef = .slice sa xs.length sc ∧ Ints y.on sa sc xs ∧ fresh w.heap.size y.on sa := hd 4 11 rfl rfl
      refine .inl ⟨rfl, ?_⟩
      clear hs hd hx
      go_simp
      exact ⟨Ext.refl _ _, sa, sc, rfl, hI, hf⟩
    · intro a' w' hx hs hd
      obtain ⟨y, rfl⟩ := hx.ew
      obtain ⟨sa, sc, e12, hI, hf⟩ : ∃ sa sc, a'.tmps[12]?.getD undef = .agg #[.int .i64 ep, .slice sa xs.length sc] ∧ Ints y.on sa sc xs ∧ fresh w.heap.size y.on sa := hd 5 12 rfl rfl
      refine .inl ⟨rfl, ?_⟩
      clear hs hd hx
      go_simp
      exact ⟨Ext.refl _ _, sa, sc, rfl, hI, hf⟩
    · intro a' w' hx hs hd
      obtain ⟨y, rfl⟩ := hx.ew
      obtain ⟨sa, sc, e13, hI, hf⟩ : ∃ sa sc, a'.tmps[13]?.getD undef = .agg #[.int .i64 ep, .slice sa xs.length sc, .int .i64 0, .slice none 0 0, .slice none 0 0, .slice none 0 0, .slice none 0 0] ∧ Ints y.on sa sc xs ∧ fresh w.heap.size y.on sa := hd 6 13 rfl rfl
      refine .inl ⟨rfl, ?_⟩
      clear hs hd hx
      go_simp
      exact ⟨(Ext.refl _ _).alloc _, _, sa, sc, rfl, (by have h4 := (by (repeat (first | with_reducible (first | exact Ext.refl _ _ | assumption | refine Ext.upN ?_ | refine Ext.alloc ?_ _ | refine Ext.drew ?_ | refine Ext.drewN ?_ _ | refine Ext.up1N (by first | omega | simp) ?_) | refine Ext.alloc ?_ _ | refine Ext.setCell ?_ (.inr (by first | omega | simp)) _)) : Ext Non x1.on y.on).size; omega), Bx.newAt _ _ _ _ rfl, hI.extN ((Ext.refl _ _).alloc _), hf.extN ((Ext.refl _ _).alloc _)⟩
    · intro a' w' hx hs hd
      obtain ⟨y, rfl⟩ := hx.ew
      obtain ⟨g, sa, sc, e14, hgl, hR, hI, hf⟩ : ∃ g sa sc, a'.tmps[14]?.getD undef = .pointer (some ⟨g, 0, none⟩) ∧ w.heap.size ≤ g ∧ Bx y.on g (rowR14 ep sa xs.length sc 0 (.slice none 0 0) (.slice none 0 0) (.slice none 0 0) (.slice none 0 0)) 138 ∧ Ints y.on sa sc xs ∧ fresh w.heap.size y.on sa := hd 7 14 rfl rfl
      refine .inl ⟨rfl, ?_⟩
      clear hs hd hx
      go_simp
      exact ⟨Ext.refl _ _, g, sa, sc, rfl, hgl, hR, hI, hf⟩
    · intro a' w' hx hs hd
      obtain ⟨y, rfl⟩ := hx.ew
      refine .inl ⟨rfl, ?_⟩
      clear hs hd hx
      go_simp
      exact ⟨Ext.refl _ _, rfl⟩
  case' q1 =>
    intro vs w' hx hRR
    obtain ⟨x2, rfl⟩ := hx.ew
    have q0 : vs 0 = _ := hRR 0 (by decide)
    have q1 : vs 1 = _ := hRR 1 (by decide)
    have q2 : vs 2 = _ := hRR 2 (by decide)
    have q3 : vs 3 = _ := hRR 3 (by decide)
    obtain ⟨sa, sc, q4, hI, hf⟩ : ∃ sa sc, vs 4 = .slice sa xs.length sc ∧ Ints x2.on sa sc xs ∧ fresh w.heap.size x2.on sa := hRR 4 (by decide)
    obtain ⟨sa, sc, q5, hI, hf⟩ : ∃ sa sc, vs 5 = .agg #[.int .i64 ep, .slice sa xs.length sc] ∧ Ints x2.on sa sc xs ∧ fresh w.heap.size x2.on sa := hRR 5 (by decide)
    obtain ⟨sa, sc, q6, hI, hf⟩ : ∃ sa sc, vs 6 = .agg #[.int .i64 ep, .slice sa xs.length sc, .int .i64 0, .slice none 0 0, .slice none 0 0, .slice none 0 0, .slice none 0 0] ∧ Ints x2.on sa sc xs ∧ fresh w.heap.size x2.on sa := hRR 6 (by decide)
    obtain ⟨g, sa, sc, q7, hgl, hR, hI, hf⟩ : ∃ g sa sc, vs 7 = .pointer (some ⟨g, 0, none⟩) ∧ w.heap.size ≤ g ∧ Bx x2.on g (rowR14 ep sa xs.length sc 0 (.slice none 0 0) (.slice none 0 0) (.slice none 0 0) (.slice none 0 0)) 138 ∧ Ints x2.on sa sc xs ∧ fresh w.heap.size x2.on sa := hRR 7 (by decide)
    obtain ⟨g, sa, sc, q8, hgl, hR, hI, hf⟩ : ∃ g sa sc, vs 8 = .pointer (some ⟨g, 0, none⟩) ∧ w.heap.size ≤ g ∧ Bx x2.on g (rowR14 ep sa xs.length sc 0 (.slice none 0 0) (.slice none 0 0) (.slice none 0 0) (.slice none 0 0)) 138 ∧ Ints x2.on sa sc xs ∧ fresh w.heap.size x2.on sa := hRR 8 (by decide)
    have q9 : vs 9 = _ := hRR 9 (by decide)
    clear hRR hx
    simp only [putAll, List.take_succ_cons, List.take_zero, List.drop_succ_cons, List.drop_zero, Act.put, List.setIfInBounds_toArray, List.set_cons_zero, List.set_cons_succ, Nat.reduceAdd, Nat.zero_add]
    simp only [q0, q1, q2, q3, q4, q5, q6, q7, q8, q9]
    clear q0 q1 q2 q3 q4 q5 q6 q7 q8 q9 vs
  have HR := Go.Lib.hid hR; have HS := Go.Lib.hid hI; have HF := Go.Lib.hid hf
  clear hR hI hf
  go_wp2
  go_returns
  have hne : ∀ k o, sa = some ⟨k, o, none⟩ → k ≠ g := fun k o e q => by
    obtain ⟨-, vs, fr, h2⟩ := HF.out k o e
    have h3 := HR.out.h
    rw [q, h3] at h2
    injection h2 with h2
    injection h2 with _ h2 _
    exact absurd h2 (by decide)
  have rn : ∀ k, ¬ Row (.slice none 0 0) k := fun k q => by cases q
  have r4 : ∀ k, ¬ Rows4 (.slice none 0 0) (.slice none 0 0) (.slice none 0 0) (.slice none 0 0) k := fun k q => by
    rcases q with q | q | q | q <;> exact rn k q
  refine ⟨g, fun k => ∃ o, sa = some ⟨k, o, none⟩, rfl, ⟨fun k => ∃ o, sa = some ⟨k, o, none⟩, sa, sc, _, _, _, _, [], ⟨HR.out, HS.out, fun k o e => ⟨o, e⟩, World.ownsRow_nil _ _ _ _, World.ownsRow_nil _ _ _ _, World.ownsRow_nil _ _ _ _, World.ownsRow_nil _ _ _ _, rfl, fun q hq => (List.not_mem_nil hq).elim, fun k h => h, fun k h => (r4 k h).elim, fun k h => (r4 k h).elim, fun k h => (rn k h).elim, fun ⟨o, e⟩ => hne g o e rfl, fun k ⟨o, e⟩ => HF.out.typed.lt e, fun q hq => (List.not_mem_nil hq).elim, fun q hq => (List.not_mem_nil hq).elim, fun q hq => (List.not_mem_nil hq).elim⟩⟩, fun k hk => ?_, HX1.out.trans x2.ext⟩
  rcases hk with rfl | ⟨o, e⟩
  · exact hgl
  · exact (HF.out k o e).1
end Go.Proofs.Ytakbkpklfihfiaa
