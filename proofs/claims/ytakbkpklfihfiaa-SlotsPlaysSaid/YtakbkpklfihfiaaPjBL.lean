/- Joined texts: R14a, R14b. What each proves stands at its head; no conditions beside those in its theorems. -/
import Derived.Laws.CopyOwn
import Derived.Deep.OwnRows
import Derived.Deep.RegionLaw
import Derived.Test.YtakbkpklfihfiaaPjAS
import Derived.Test.YtakbkpklfihfiaaPjBF
import Derived.Test.YtakbkpklfihfiaaPjBJ
/- The reference of layer 14: what its log is in memory. -/
namespace Go.Proofs.Ytakbkpklfihfiaa
open Go.RowKit Go.Lib F64
set_option linter.unusedSimpArgs false
set_option linter.unusedVariables false
def eC (p : Int × Req) : List Value := [.int .i64 p.1, .int .i64 p.2.client, .int .i64 p.2.stamp, .int .i64 p.2.op.kind, .string p.2.op.key, .float .f64 p.2.op.real, .int .i64 p.2.op.id]
def vC (v : RV) : List Value := [.bool v.cm, .int .i64 v.frm, .int .i64 v.slot, .int .i64 v.vt.req.client, .int .i64 v.vt.req.stamp, .int .i64 v.vt.req.op.kind, .string v.vt.req.op.key, .float .f64 v.vt.req.op.real, .int .i64 v.vt.req.op.id, .int .i64 v.vt.by_, .string v.vt.text]
def rowR14 (ep : Int) (a : Option Addr) (n c : Nat) (view : Int) (v1 v2 v3 v4 : Value) : List Value := [.int .i64 ep, .slice a n c, .int .i64 view, v1, v2, v3, v4]
def Rows4 (v1 v2 v3 v4 : Value) : Nat → Prop := fun k => Row v1 k ∨ Row v2 k ∨ Row v3 k ∨ Row v4 k
theorem own_apart {w : World} {B1 B2 : Nat} {e1 e2 : TypeId} {k1 k2 : Nat} {v1 v2 : Value} {n1 n2 : Nat} {x1 x2 : List Value} (h1 : w.ownsRow B1 e1 k1 v1 n1 x1) (h2 : w.ownsRow B2 e2 k2 v2 n2 x2) (hne : e1 ≠ e2) : ∀ k, Row v1 k → ¬ Row v2 k := fun k q1 q2 => by
  rcases h1.2 with ⟨rfl, _⟩ | ⟨j1, cap1, cur1, rfl, _, g1, _⟩
  · cases q1
  · rcases h2.2 with ⟨rfl, _⟩ | ⟨j2, cap2, cur2, rfl, _, g2, _⟩
    · cases q2
    · have e1' : j1 = k := by simpa [Row, Value.ownBlock] using q1
      have e2' : j2 = k := by simpa [Row, Value.ownBlock] using q2
      subst e1'
      rw [e2', g1] at g2
      injection g2 with g2
      injection g2 with _ g2 _
      exact hne g2
/-- The parts of a log of the reference's. -/
structure R14Q (w : World) (b : Nat) (G S : Nat → Prop) (m : RL14) (a : Option Addr) (c : Nat) (v1 v2 v3 v4 : Value) (ka : List CtR) : Prop where
  bx : Bx w b (rowR14 m.ep a m.mem.length c m.view v1 v2 v3 v4) 138
  ints : Ints w a c m.mem
  ia : ∀ k o, a = some ⟨k, o, none⟩ → S k
  o1 : w.ownsRow 0 161 7 v1 m.props.length (m.props.flatMap eC)
  o2 : w.ownsRow 0 164 11 v2 m.votes.length (m.votes.flatMap vC)
  o3 : w.ownsRow 0 52 9 v3 ka.length (ka.flatMap ctRow)
  o4 : w.ownsRow 0 161 7 v4 m.done.length (m.done.flatMap eC)
  km : ka.map (·.1) = m.kept
  ck : ∀ q ∈ ka, CtOk w q ∧ ∀ k o, q.2.1 = some ⟨k, o, none⟩ → S k
  sG : ∀ k, S k → G k
  rG : ∀ k, Rows4 v1 v2 v3 v4 k → G k
  rS : ∀ k, Rows4 v1 v2 v3 v4 k → ¬ S k
  r14 : ∀ k, Row v1 k → ¬ Row v4 k
  nb : ¬ G b
  lt : ∀ k, G k → k < w.heap.size
  e1 : ∀ p ∈ m.props, ReqOk p.2
  e2 : ∀ v ∈ m.votes, v.vt.ok
  e4 : ∀ p ∈ m.done, ReqOk p.2
structure R14W (w : World) (b : Nat) (G : Nat → Prop) (m : RL14) : Prop where
  ex : ∃ S a c v1 v2 v3 v4 ka, R14Q w b G S m a c v1 v2 v3 v4 ka
theorem CtOk.ext {T : Nat → Prop} {w w' : World} {q : CtR} (h : CtOk w q) (x : Ext T w w') (hs : ∀ k o, q.2.1 = some ⟨k, o, none⟩ → ¬ T k) : CtOk w' q := by
  obtain ⟨h1, h2, h3, h4⟩ := h
  refine ⟨⟨h1.le, h1.small, fun j hj => ?_⟩, h2, h3, h4⟩
  obtain ⟨b, o, e, hb, c0, c1, r⟩ := h1.at_ j hj
  have hn : ¬ T b := hs b o e
  exact ⟨b, o, e, Nat.lt_of_lt_of_le hb x.size, (x.cell (p := ⟨b, o + j * 2, none⟩) hb hn).trans c0, (x.cell (p := ⟨b, o + j * 2 + 1, none⟩) hb hn).trans c1, r⟩
section
variable {w w' : World} {b : Nat} {G S : Nat → Prop} {m : RL14} {a : Option Addr} {c : Nat} {v1 v2 v3 v4 : Value} {ka : List CtR}
theorem R14Q.ext {T : Nat → Prop} (h : R14Q w b G S m a c v1 v2 v3 v4 ka) (x : Ext T w w') (hT : ∀ k, LoF b G k → ¬ T k) : R14Q w' b G S m a c v1 v2 v3 v4 ka :=
  ⟨h.bx.ext x (hT b (.inl rfl)), h.ints.ext x (fun k o e => hT k (.inr (h.sG k (h.ia k o e)))), h.ia,
    ownR_ext h.o1 x (fun k hk => hT k (.inr (h.rG k (.inl hk)))), ownR_ext h.o2 x (fun k hk => hT k (.inr (h.rG k (.inr (.inl hk))))), ownR_ext h.o3 x (fun k hk => hT k (.inr (h.rG k (.inr (.inr (.inl hk)))))), ownR_ext h.o4 x (fun k hk => hT k (.inr (h.rG k (.inr (.inr (.inr hk)))))),
    h.km, fun q hq => ⟨(h.ck q hq).1.ext x (fun k o e => hT k (.inr (h.sG k ((h.ck q hq).2 k o e)))), (h.ck q hq).2⟩, h.sG, h.rG, h.rS, h.r14, h.nb, fun k hk => Nat.lt_of_lt_of_le (h.lt k hk) x.size, h.e1, h.e2, h.e4⟩
theorem R14Q.extN (h : R14Q w b G S m a c v1 v2 v3 v4 ka) (x : Ext Non w w') : R14Q w' b G S m a c v1 v2 v3 v4 ka := h.ext x fun _ _ f => f
theorem R14W.ext {T : Nat → Prop} (h : R14W w b G m) (x : Ext T w w') (hT : ∀ k, LoF b G k → ¬ T k) : R14W w' b G m := by
  obtain ⟨S, a, c, v1, v2, v3, v4, ka, q⟩ := h.ex
  exact ⟨S, a, c, v1, v2, v3, v4, ka, q.ext x hT⟩
theorem R14W.extN (h : R14W w b G m) (x : Ext Non w w') : R14W w' b G m := h.ext x fun _ _ f => f
theorem R14W.lt (h : R14W w b G m) : b < w.heap.size ∧ (∀ k, G k → k < w.heap.size) ∧ ¬ G b := by
  obtain ⟨S, a, c, v1, v2, v3, v4, ka, q⟩ := h.ex
  exact ⟨q.bx.lt, q.lt, q.nb⟩
theorem R14Q.c0 (h : R14Q w b G S m a c v1 v2 v3 v4 ka) : w.cell? ⟨b, 0, none⟩ = some (.int .i64 m.ep) := h.bx.cell rfl
theorem R14Q.c1 (h : R14Q w b G S m a c v1 v2 v3 v4 ka) : w.cell? ⟨b, 1, none⟩ = some (.slice a m.mem.length c) := h.bx.cell rfl
theorem R14Q.c2 (h : R14Q w b G S m a c v1 v2 v3 v4 ka) : w.cell? ⟨b, 2, none⟩ = some (.int .i64 m.view) := h.bx.cell rfl
theorem R14Q.c3 (h : R14Q w b G S m a c v1 v2 v3 v4 ka) : w.cell? ⟨b, 3, none⟩ = some v1 := h.bx.cell rfl
theorem R14Q.c4 (h : R14Q w b G S m a c v1 v2 v3 v4 ka) : w.cell? ⟨b, 4, none⟩ = some v2 := h.bx.cell rfl
theorem R14Q.c5 (h : R14Q w b G S m a c v1 v2 v3 v4 ka) : w.cell? ⟨b, 5, none⟩ = some v3 := h.bx.cell rfl
theorem R14Q.c6 (h : R14Q w b G S m a c v1 v2 v3 v4 ka) : w.cell? ⟨b, 6, none⟩ = some v4 := h.bx.cell rfl
theorem R14Q.fz (h : R14Q w b G S m a c v1 v2 v3 v4 ka) (k : Nat) : w.frozen? ⟨b, k, none⟩ = false := froz_of_heap h.bx.h
end
/-- A row of entries, as a slice is read. -/
def EntS (w : World) (a : Option Addr) (cap : Nat) (l : List (Int × Req)) : Prop := l.length ≤ cap ∧ cap ≤ 9223372036854775807 ∧ ∀ j (hj : j < l.length), ∃ g, a = some ⟨g, 0, none⟩ ∧ g < w.heap.size ∧ ∀ i u, (eC l[j])[i]? = some u → w.cell? ⟨g, 0 + j * 7 + i, none⟩ = some u
theorem ents_of {w : World} {base : Nat} {v : Value} {l : List (Int × Req)} (h : w.ownsRow base 161 7 v l.length (l.flatMap eC)) : ∃ a cap, v = .slice a l.length cap ∧ EntS w a cap l := by
  obtain ⟨a, cap, e, h1, h2, h3⟩ := ownG_rows l eC (fun _ => rfl) h
  exact ⟨a, cap, e, h1, h2, h3⟩
theorem EntS.extN {w w' : World} {a : Option Addr} {cap : Nat} {l : List (Int × Req)} (h : EntS w a cap l) (x : Ext Non w w') : EntS w' a cap l :=
  ⟨h.1, h.2.1, fun j hj => by
    obtain ⟨g, e, hg, hc⟩ := h.2.2 j hj
    exact ⟨g, e, Nat.lt_of_lt_of_le hg x.size, fun i u hu => (x.cell (p := ⟨g, 0 + j * 7 + i, none⟩) hg (fun f => f)).trans (hc i u hu)⟩⟩
/-- A row of votes, as a slice is read. -/
def VotS (w : World) (a : Option Addr) (cap : Nat) (l : List RV) : Prop := l.length ≤ cap ∧ cap ≤ 9223372036854775807 ∧ ∀ j (hj : j < l.length), ∃ g, a = some ⟨g, 0, none⟩ ∧ g < w.heap.size ∧ ∀ i u, (vC l[j])[i]? = some u → w.cell? ⟨g, 0 + j * 11 + i, none⟩ = some u
theorem vots_of {w : World} {base : Nat} {v : Value} {l : List RV} (h : w.ownsRow base 164 11 v l.length (l.flatMap vC)) : ∃ a cap, v = .slice a l.length cap ∧ VotS w a cap l := by
  obtain ⟨a, cap, e, h1, h2, h3⟩ := ownG_rows l vC (fun _ => rfl) h
  exact ⟨a, cap, e, h1, h2, h3⟩
theorem VotS.extN {w w' : World} {a : Option Addr} {cap : Nat} {l : List RV} (h : VotS w a cap l) (x : Ext Non w w') : VotS w' a cap l :=
  ⟨h.1, h.2.1, fun j hj => by
    obtain ⟨g, e, hg, hc⟩ := h.2.2 j hj
    exact ⟨g, e, Nat.lt_of_lt_of_le hg x.size, fun i u hu => (x.cell (p := ⟨g, 0 + j * 11 + i, none⟩) hg (fun f => f)).trans (hc i u hu)⟩⟩
end Go.Proofs.Ytakbkpklfihfiaa

/- The reference of layer 14: find, Proposed, Committed. -/
namespace Go.Proofs.Ytakbkpklfihfiaa
open Go.RowKit Go.Lib F64
set_option linter.unusedSimpArgs false
set_option linter.unusedVariables false
attribute [local go_sem] run_store_float
attribute [local go_sem low] EW.cellN EW.frozN alloc_cell_or alloc_froz_or EW.cellF EW.frozF EW.cell1 EW.froz1
attribute [local go_sem] relAt relUpon
theorem getG_hit {l : List (Int × Req)} {i : Nat} (hi : i < l.length) {k : Int} (hno : ∀ j (hj : j < l.length), j < i → l[j].1 ≠ k) (h : l[i].1 = k) : getG l k = some l[i].2 := by
  induction l generalizing i with
  | nil => simp at hi
  | cons p t ih =>
    cases i with
    | zero =>
      have h : p.1 = k := h
      unfold getG
      rw [List.find?_cons, decide_eq_true h]; rfl
    | succ i =>
      have h0 : p.1 ≠ k := hno 0 (by simp) (by omega)
      have := ih (i := i) (by simpa using hi) (fun j hj hji => hno (j + 1) (by simpa using hj) (by omega)) h
      unfold getG at this ⊢
      rw [List.find?_cons, decide_eq_false h0]
      exact this
theorem getG_miss {l : List (Int × Req)} {k : Int} (hno : ∀ j (hj : j < l.length), l[j].1 ≠ k) : getG l k = none :=
  getG_none.2 fun p hp e => by
    obtain ⟨j, hj, rfl⟩ := List.getElem_of_mem hp
    exact hno j hj e
set_option maxHeartbeats 2000000 in
set_option maxRecDepth 100000 in
theorem ref14_find (a : Option Addr) (cap : Nat) (l : List (Int × Req)) (n : Int) (w : World) (h : EntS w a cap l) : Calls Try.prog 126 #[.slice a l.length cap, .int .i64 n] w fun e w' => e = .returned (toldV (getG l n)) ∧ Ext Non w w' := by
  have HH := Go.Lib.hid h
  have hle := h.1; have hsm := h.2.1
  clear h
  obtain ⟨N, hN⟩ : ∃ N, N = l.length := ⟨_, rfl⟩
  have HN := Go.Lib.hid hN
  rw [← hN] at hle ⊢
  clear hN
  have B0 := Go.Lib.hid (Bx.newAt w [.int .i64 0, .int .i64 0, .int .i64 0, .string ByteArray.empty, .float .f64 0, .int .i64 0] 49 _ rfl)
  go_enter Try.func126, Try.ntmps126
  go_wp2_with fail
  go_loopg [6] N (fun k iv wr => ∃ (i : Nat) (z : EW Non w), i ≤ N ∧ k = N - i ∧ iv = .int .i64 i ∧ wr = z.on ∧ Hid (Bx wr w.heap.size [.int .i64 0, .int .i64 0, .int .i64 0, .string ByteArray.empty, .float .f64 0, .int .i64 0] 49) ∧ Hid (∀ j (hj : j < l.length), j < i → l[j].1 ≠ n))
  case atStart => exact ⟨0, ⟨_, by (repeat (first | with_reducible (first | exact Ext.refl _ _ | assumption | refine Ext.upN ?_ | refine Ext.alloc ?_ _ | refine Ext.drew ?_ | refine Ext.drewN ?_ _ | refine Ext.up1N (by first | omega | simp) ?_) | refine Ext.alloc ?_ _ | refine Ext.setCell ?_ (.inr (by first | omega | simp)) _))⟩, Nat.zero_le _, rfl, rfl, rfl, B0, Go.Lib.hid (fun j hj h => absurd h (Nat.not_lt_zero _))⟩
  case round =>
    obtain ⟨i, z, hi, hk, rfl, rfl, BX, HNo⟩ := hrel
    have HG := Go.Lib.hid hk; clear hk B0
    by_cases hlt : i < N
    · have hil : i < l.length := by rw [← HN.out]; exact hlt
      obtain ⟨g, rfl, hg, hc⟩ := HH.out.2.2 i hil
      have HIT := Go.Lib.hid (fun (h : l[i].1 = n) => getG_hit hil HNo.out h)
      have NXT : Hid (l[i].1 ≠ n → ∀ j (hj : j < l.length), j < i + 1 → l[j].1 ≠ n) := Go.Lib.hid (fun h j hj hji => by
        by_cases q : j = i
        · subst q; exact h
        · exact HNo.out j hj (by omega))
      generalize l[i] = p at *
      obtain ⟨pn, ⟨rc, rs, ⟨rk, rkey, rx, rid⟩⟩⟩ := p
      have c0 : w.cell? ⟨g, 0 + i * 7, none⟩ = some (.int .i64 pn) := hc 0 _ rfl
      have c1 : w.cell? ⟨g, 0 + i * 7 + 1, none⟩ = some (.int .i64 rc) := hc 1 _ rfl
      have c2 : w.cell? ⟨g, 0 + i * 7 + 2, none⟩ = some (.int .i64 rs) := hc 2 _ rfl
      have c3 : w.cell? ⟨g, 0 + i * 7 + 3, none⟩ = some (.int .i64 rk) := hc 3 _ rfl
      have c4 : w.cell? ⟨g, 0 + i * 7 + 4, none⟩ = some (.string rkey) := hc 4 _ rfl
      have c5 : w.cell? ⟨g, 0 + i * 7 + 5, none⟩ = some (.float .f64 rx) := hc 5 _ rfl
      have c6 : w.cell? ⟨g, 0 + i * 7 + 6, none⟩ = some (.int .i64 rid) := hc 6 _ rfl
      clear hc
      simp only [Nat.zero_add] at c0 c1 c2 c3 c4 c5 c6
      by_cases hs : pn = n
      · have hb : (pn == n) = true := by simpa using hs
        have RES : Hid (getG l n = some ⟨rc, rs, ⟨rk, rkey, rx, rid⟩⟩) := Go.Lib.hid (HIT.out hs)
        clear hs
        go_wp2_with (refine wpList_store_box rfl 49 _ _ rfl w.heap.size _ [.int .i64 rc, .int .i64 rs, .int .i64 rk, .string rkey, .float .f64 rx, .int .i64 rid] _ rfl rfl BX.out rfl info_req6 (by simp [Value.oneCell']) (fun W hB => ?_); have BZ := Go.Lib.hid hB; clear hB)
        have r0 : W.on.cell? ⟨w.heap.size, 0, none⟩ = some (.int .i64 rc) := BZ.out.cell rfl
        have r1 : W.on.cell? ⟨w.heap.size, 1, none⟩ = some (.int .i64 rs) := BZ.out.cell rfl
        have r2 : W.on.cell? ⟨w.heap.size, 2, none⟩ = some (.int .i64 rk) := BZ.out.cell rfl
        have r3 : W.on.cell? ⟨w.heap.size, 3, none⟩ = some (.string rkey) := BZ.out.cell rfl
        have r4 : W.on.cell? ⟨w.heap.size, 4, none⟩ = some (.float .f64 rx) := BZ.out.cell rfl
        have r5 : W.on.cell? ⟨w.heap.size, 5, none⟩ = some (.int .i64 rid) := BZ.out.cell rfl
        exact bodyPost_ret (v := .tuple #[.agg #[.int .i64 rc, .int .i64 rs, .int .i64 rk, .string rkey, .float .f64 rx, .int .i64 rid], .bool true]) (by simp [results, Try.results126, go_sem, r0, r1, r2, r3, r4, r5]) rfl ⟨by rw [RES.out]; rfl, by (repeat (first | with_reducible (first | exact Ext.refl _ _ | assumption | refine Ext.upN ?_ | refine Ext.alloc ?_ _ | refine Ext.drew ?_ | refine Ext.drewN ?_ _ | refine Ext.up1N (by first | omega | simp) ?_) | refine Ext.alloc ?_ _ | refine Ext.setCell ?_ (.inr (by first | omega | simp)) _))⟩
      · have hb : (pn == n) = false := by simpa using hs
        have N2 := Go.Lib.hid (NXT.out hs)
        clear hs
        go_wp2_with fail
        go_roundg (N - (i + 1))
        case measure => have := HG.out; omega
        case rel => exact ⟨i + 1, ⟨_, by (repeat (first | with_reducible (first | exact Ext.refl _ _ | assumption | refine Ext.upN ?_ | refine Ext.alloc ?_ _ | refine Ext.drew ?_ | refine Ext.drewN ?_ _ | refine Ext.up1N (by first | omega | simp) ?_) | refine Ext.alloc ?_ _ | refine Ext.setCell ?_ (.inr (by first | omega | simp)) _))⟩, hlt, rfl, by go_num, rfl, BX, N2⟩
    · have RES : Hid (getG l n = none) := Go.Lib.hid (getG_miss (fun j hj => HNo.out j hj (by have := HN.out; omega)))
      go_wp2_with (refine wpList_store_box rfl 49 _ _ rfl w.heap.size _ [.int .i64 0, .int .i64 0, .int .i64 0, .string ByteArray.empty, .float .f64 0, .int .i64 0] _ rfl rfl BX.out rfl info_req6 (by simp [Value.oneCell']) (fun W hB => ?_); have BZ := Go.Lib.hid hB; clear hB)
      have r0 : W.on.cell? ⟨w.heap.size, 0, none⟩ = some (.int .i64 0) := BZ.out.cell rfl
      have r1 : W.on.cell? ⟨w.heap.size, 1, none⟩ = some (.int .i64 0) := BZ.out.cell rfl
      have r2 : W.on.cell? ⟨w.heap.size, 2, none⟩ = some (.int .i64 0) := BZ.out.cell rfl
      have r3 : W.on.cell? ⟨w.heap.size, 3, none⟩ = some (.string ByteArray.empty) := BZ.out.cell rfl
      have r4 : W.on.cell? ⟨w.heap.size, 4, none⟩ = some (.float .f64 0) := BZ.out.cell rfl
      have r5 : W.on.cell? ⟨w.heap.size, 5, none⟩ = some (.int .i64 0) := BZ.out.cell rfl
      exact bodyPost_ret (v := .tuple #[.agg #[.int .i64 0, .int .i64 0, .int .i64 0, .string ByteArray.empty, .float .f64 0, .int .i64 0], .bool false]) (by simp [results, Try.results126, go_sem, r0, r1, r2, r3, r4, r5]) rfl ⟨by rw [RES.out]; rfl, by (repeat (first | with_reducible (first | exact Ext.refl _ _ | assumption | refine Ext.upN ?_ | refine Ext.alloc ?_ _ | refine Ext.drew ?_ | refine Ext.drewN ?_ _ | refine Ext.up1N (by first | omega | simp) ?_) | refine Ext.alloc ?_ _ | refine Ext.setCell ?_ (.inr (by first | omega | simp)) _))⟩
/-! A proposal, and what is committed. -/
set_option maxHeartbeats 1000000 in
set_option maxRecDepth 100000 in
theorem ref14_Proposed (b : Nat) (G : Nat → Prop) (m : RL14) (n : Int) (w : World) (h : R14W w b G m) : Calls Try.prog 94 #[.pointer (some ⟨b, 0, none⟩), .int .i64 n] w fun e w' => e = .returned (toldV (getG m.props n)) ∧ Ext Non w w' := by
  obtain ⟨S, a, c, v1, v2, v3, v4, ka, Q⟩ := h.ex
  obtain ⟨va, vc, rfl, hvs⟩ := ents_of Q.o1
  have c3 := Q.c3
  have KF : Hid (∀ w', Ext Non w w' → Calls Try.prog 126 #[.slice va m.props.length vc, .int .i64 n] w' fun e w'' => e = .returned (toldV (getG m.props n)) ∧ Ext Non w' w'') := Go.Lib.hid (fun w' x => ref14_find va vc m.props n w' (hvs.extN x))
  clear Q h hvs
  generalize m.props.length = len at *
  generalize getG m.props n = o at *
  unfold toldV at *
  obtain ⟨r, hr⟩ : ∃ r, r = o.getD nullR := ⟨_, rfl⟩
  generalize o.isSome = ok at *
  rw [← hr] at KF ⊢
  clear hr
  obtain ⟨rc, rs, ⟨rk, rkey, rx, rid⟩⟩ := r
  unfold reqV at *
  simp only at KF ⊢
  have B0 := Go.Lib.hid (Bx.newAt w [.int .i64 0, .int .i64 0, .int .i64 0, .string ByteArray.empty, .float .f64 0, .int .i64 0] 49 _ rfl)
  go_enter Try.func94, Try.ntmps94
  go_wp2_with fail
  refine Calls.ew (KF.out _ (by (repeat (first | with_reducible (first | exact Ext.refl _ _ | assumption | refine Ext.upN ?_ | refine Ext.alloc ?_ _ | refine Ext.drew ?_ | refine Ext.drewN ?_ _ | refine Ext.up1N (by first | omega | simp) ?_) | refine Ext.alloc ?_ _ | refine Ext.setCell ?_ (.inr (by first | omega | simp)) _)))) ?_
  rintro e x1 rfl
  have B1 := Go.Lib.hid (B0.out.extN x1.ext)
  go_upto_region 2 with (refine wpList_store_box rfl 49 _ _ rfl x1.on.heap.size _ [.int .i64 rc, .int .i64 rs, .int .i64 rk, .string rkey, .float .f64 rx, .int .i64 rid] _ rfl rfl (Bx.newAt _ _ _ _ rfl) rfl info_req6 (by simp [Value.oneCell']) (fun W hB => ?_); have BZ := Go.Lib.hid hB; clear hB)
  have XV : Ext Non x1.on W.on := by (repeat (first | with_reducible (first | exact Ext.refl _ _ | assumption | refine Ext.upN ?_ | refine Ext.alloc ?_ _ | refine Ext.drew ?_ | refine Ext.drewN ?_ _ | refine Ext.up1N (by first | omega | simp) ?_) | refine Ext.alloc ?_ _ | refine Ext.setCell ?_ (.inr (by first | omega | simp)) _))
  have XW : Ext Non w W.on := (by (repeat (first | with_reducible (first | exact Ext.refl _ _ | assumption | refine Ext.upN ?_ | refine Ext.alloc ?_ _ | refine Ext.drew ?_ | refine Ext.drewN ?_ _ | refine Ext.up1N (by first | omega | simp) ?_) | refine Ext.alloc ?_ _ | refine Ext.setCell ?_ (.inr (by first | omega | simp)) _)) : Ext Non w x1.on).trans XV
  have B2 := Go.Lib.hid (B1.out.extN XV)
  have XX := Go.Lib.hid XW
  clear XW XV
  try simp only [Act.put]
  generalize x1.on.heap.size = kz at *
  generalize W.on = w3 at *
  have z0 : w3.cell? ⟨kz, 0, none⟩ = some (.int .i64 rc) := BZ.out.cell rfl
  have z1 : w3.cell? ⟨kz, 1, none⟩ = some (.int .i64 rs) := BZ.out.cell rfl
  have z2 : w3.cell? ⟨kz, 2, none⟩ = some (.int .i64 rk) := BZ.out.cell rfl
  have z3 : w3.cell? ⟨kz, 3, none⟩ = some (.string rkey) := BZ.out.cell rfl
  have z4 : w3.cell? ⟨kz, 4, none⟩ = some (.float .f64 rx) := BZ.out.cell rfl
  have z5 : w3.cell? ⟨kz, 5, none⟩ = some (.int .i64 rid) := BZ.out.cell rfl
  go_wp2_with (refine wpList_store_box rfl 49 _ _ rfl w.heap.size _ [.int .i64 rc, .int .i64 rs, .int .i64 rk, .string rkey, .float .f64 rx, .int .i64 rid] _ rfl rfl B2.out rfl info_req6 (by simp [Value.oneCell']) (fun W hB => ?_); have BY := Go.Lib.hid hB; clear hB)
  have r0 : W.on.cell? ⟨w.heap.size, 0, none⟩ = some (.int .i64 rc) := BY.out.cell rfl
  have r1 : W.on.cell? ⟨w.heap.size, 1, none⟩ = some (.int .i64 rs) := BY.out.cell rfl
  have r2 : W.on.cell? ⟨w.heap.size, 2, none⟩ = some (.int .i64 rk) := BY.out.cell rfl
  have r3 : W.on.cell? ⟨w.heap.size, 3, none⟩ = some (.string rkey) := BY.out.cell rfl
  have r4 : W.on.cell? ⟨w.heap.size, 4, none⟩ = some (.float .f64 rx) := BY.out.cell rfl
  have r5 : W.on.cell? ⟨w.heap.size, 5, none⟩ = some (.int .i64 rid) := BY.out.cell rfl
  have XF : Ext Non w W.on := XX.out.step W.ext (fun i hi q => by have q : i = w.heap.size := q; omega)
  clear z0 z1 z2 z3 z4 z5
  exact bodyPost_ret (v := .tuple #[.agg #[.int .i64 rc, .int .i64 rs, .int .i64 rk, .string rkey, .float .f64 rx, .int .i64 rid], .bool ok]) (by simp [results, Try.results94, go_sem, r0, r1, r2, r3, r4, r5]) rfl ⟨rfl, XF⟩
set_option maxHeartbeats 1000000 in
set_option maxRecDepth 100000 in
theorem ref14_Committed (b : Nat) (G : Nat → Prop) (m : RL14) (n : Int) (w : World) (h : R14W w b G m) : Calls Try.prog 95 #[.pointer (some ⟨b, 0, none⟩), .int .i64 n] w fun e w' => e = .returned (toldV (getG m.done n)) ∧ Ext Non w w' := by
  obtain ⟨S, a, c, v1, v2, v3, v4, ka, Q⟩ := h.ex
  obtain ⟨va, vc, rfl, hvs⟩ := ents_of Q.o4
  have c3 := Q.c6
  have KF : Hid (∀ w', Ext Non w w' → Calls Try.prog 126 #[.slice va m.done.length vc, .int .i64 n] w' fun e w'' => e = .returned (toldV (getG m.done n)) ∧ Ext Non w' w'') := Go.Lib.hid (fun w' x => ref14_find va vc m.done n w' (hvs.extN x))
  clear Q h hvs
  generalize m.done.length = len at *
  generalize getG m.done n = o at *
  unfold toldV at *
  obtain ⟨r, hr⟩ : ∃ r, r = o.getD nullR := ⟨_, rfl⟩
  generalize o.isSome = ok at *
  rw [← hr] at KF ⊢
  clear hr
  obtain ⟨rc, rs, ⟨rk, rkey, rx, rid⟩⟩ := r
  unfold reqV at *
  simp only at KF ⊢
  have B0 := Go.Lib.hid (Bx.newAt w [.int .i64 0, .int .i64 0, .int .i64 0, .string ByteArray.empty, .float .f64 0, .int .i64 0] 49 _ rfl)
  go_enter Try.func95, Try.ntmps95
  go_wp2_with fail
  refine Calls.ew (KF.out _ (by (repeat (first | with_reducible (first | exact Ext.refl _ _ | assumption | refine Ext.upN ?_ | refine Ext.alloc ?_ _ | refine Ext.drew ?_ | refine Ext.drewN ?_ _ | refine Ext.up1N (by first | omega | simp) ?_) | refine Ext.alloc ?_ _ | refine Ext.setCell ?_ (.inr (by first | omega | simp)) _)))) ?_
  rintro e x1 rfl
  have B1 := Go.Lib.hid (B0.out.extN x1.ext)
  go_upto_region 2 with (refine wpList_store_box rfl 49 _ _ rfl x1.on.heap.size _ [.int .i64 rc, .int .i64 rs, .int .i64 rk, .string rkey, .float .f64 rx, .int .i64 rid] _ rfl rfl (Bx.newAt _ _ _ _ rfl) rfl info_req6 (by simp [Value.oneCell']) (fun W hB => ?_); have BZ := Go.Lib.hid hB; clear hB)
  have XV : Ext Non x1.on W.on := by (repeat (first | with_reducible (first | exact Ext.refl _ _ | assumption | refine Ext.upN ?_ | refine Ext.alloc ?_ _ | refine Ext.drew ?_ | refine Ext.drewN ?_ _ | refine Ext.up1N (by first | omega | simp) ?_) | refine Ext.alloc ?_ _ | refine Ext.setCell ?_ (.inr (by first | omega | simp)) _))
  have XW : Ext Non w W.on := (by (repeat (first | with_reducible (first | exact Ext.refl _ _ | assumption | refine Ext.upN ?_ | refine Ext.alloc ?_ _ | refine Ext.drew ?_ | refine Ext.drewN ?_ _ | refine Ext.up1N (by first | omega | simp) ?_) | refine Ext.alloc ?_ _ | refine Ext.setCell ?_ (.inr (by first | omega | simp)) _)) : Ext Non w x1.on).trans XV
  have B2 := Go.Lib.hid (B1.out.extN XV)
  have XX := Go.Lib.hid XW
  clear XW XV
  try simp only [Act.put]
  generalize x1.on.heap.size = kz at *
  generalize W.on = w3 at *
  have z0 : w3.cell? ⟨kz, 0, none⟩ = some (.int .i64 rc) := BZ.out.cell rfl
  have z1 : w3.cell? ⟨kz, 1, none⟩ = some (.int .i64 rs) := BZ.out.cell rfl
  have z2 : w3.cell? ⟨kz, 2, none⟩ = some (.int .i64 rk) := BZ.out.cell rfl
  have z3 : w3.cell? ⟨kz, 3, none⟩ = some (.string rkey) := BZ.out.cell rfl
  have z4 : w3.cell? ⟨kz, 4, none⟩ = some (.float .f64 rx) := BZ.out.cell rfl
  have z5 : w3.cell? ⟨kz, 5, none⟩ = some (.int .i64 rid) := BZ.out.cell rfl
  go_wp2_with (refine wpList_store_box rfl 49 _ _ rfl w.heap.size _ [.int .i64 rc, .int .i64 rs, .int .i64 rk, .string rkey, .float .f64 rx, .int .i64 rid] _ rfl rfl B2.out rfl info_req6 (by simp [Value.oneCell']) (fun W hB => ?_); have BY := Go.Lib.hid hB; clear hB)
  have r0 : W.on.cell? ⟨w.heap.size, 0, none⟩ = some (.int .i64 rc) := BY.out.cell rfl
  have r1 : W.on.cell? ⟨w.heap.size, 1, none⟩ = some (.int .i64 rs) := BY.out.cell rfl
  have r2 : W.on.cell? ⟨w.heap.size, 2, none⟩ = some (.int .i64 rk) := BY.out.cell rfl
  have r3 : W.on.cell? ⟨w.heap.size, 3, none⟩ = some (.string rkey) := BY.out.cell rfl
  have r4 : W.on.cell? ⟨w.heap.size, 4, none⟩ = some (.float .f64 rx) := BY.out.cell rfl
  have r5 : W.on.cell? ⟨w.heap.size, 5, none⟩ = some (.int .i64 rid) := BY.out.cell rfl
  have XF : Ext Non w W.on := XX.out.step W.ext (fun i hi q => by have q : i = w.heap.size := q; omega)
  clear z0 z1 z2 z3 z4 z5
  exact bodyPost_ret (v := .tuple #[.agg #[.int .i64 rc, .int .i64 rs, .int .i64 rk, .string rkey, .float .f64 rx, .int .i64 rid], .bool ok]) (by simp [results, Try.results95, go_sem, r0, r1, r2, r3, r4, r5]) rfl ⟨rfl, XF⟩
end Go.Proofs.Ytakbkpklfihfiaa
