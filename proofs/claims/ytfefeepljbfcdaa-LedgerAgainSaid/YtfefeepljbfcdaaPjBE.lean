/- Joined texts: Once12. What each proves stands at its head; no conditions beside those in its theorems. -/
import Derived.Test.YtfefeepljbfcdaaPjAA
import Derived.Test.YtfefeepljbfcdaaPjAB
import Derived.Test.YtfefeepljbfcdaaPjAE
import Derived.Test.YtfefeepljbfcdaaPjAI
import Derived.Test.YtfefeepljbfcdaaPjAF
import Derived.Test.YtfefeepljbfcdaaPjAJ
import Derived.Test.YtfefeepljbfcdaaPjAK
import Derived.Test.YtfefeepljbfcdaaPjAO
import Derived.Test.YtfefeepljbfcdaaPjAP
import Derived.Test.YtfefeepljbfcdaaPjAT
import Derived.Test.YtfefeepljbfcdaaPjAU
import Derived.Test.YtfefeepljbfcdaaPjAV
import Derived.Test.YtfefeepljbfcdaaPjAW
import Derived.Test.YtfefeepljbfcdaaPjAX
import Derived.Test.YtfefeepljbfcdaaPjAY
import Derived.Test.YtfefeepljbfcdaaPjAZ
import Derived.Test.YtfefeepljbfcdaaPjBA
import Derived.Test.YtfefeepljbfcdaaPjAQ
import Derived.Test.YtfefeepljbfcdaaPjBB
/- The law LedgerOnce, walked: what 'played' hands back. -/
namespace Go.Proofs.Ytfefeepljbfcdaa
open Go.RowKit F64
set_option linter.unusedSimpArgs false
set_option linter.unusedVariables false
attribute [local go_sem] run_store_float

theorem played_no (ep : Int) (a : Option Addr) (cap : Nat) (xs : List Int) (hn : confB ep xs = false ∨ ep ≠ 0) (v : Value) (w : World) (h : Ints w a cap xs) :
    Calls Try.prog 19 #[.agg #[.int .i64 ep, .slice a xs.length cap], v] w fun e w' => e = .returned (.pointer none) ∧ Ext Non w w' := by
  have HH := Go.Lib.hid h
  have HN := Go.Lib.hid hn
  clear h hn
  go_enter Try.func19, Try.ntmps19
  go_wp2_with fail
  refine (ledger_New_no _ _ _ _ HN.out _ (HH.out.extN ((Ext.refl _ _).alloc _))).mono ?_
  rintro e w2 ⟨rfl, x2⟩
  go_wp2
  go_returns
  exact ⟨rfl, ((Ext.refl _ _).alloc _).trans x2⟩
set_option maxHeartbeats 1000000 in
set_option maxRecDepth 100000 in
theorem played_ok (a : Option Addr) (cap : Nat) (xs : List Int) (hx : membersB xs = true) (sa : Option Addr) (len scap : Nat) (F : Nat → Qop) (hl : len ≤ maxLen) (w : World) (h : Ints w a cap xs) (hs : Ops w sa len F) :
    Calls Try.prog 19 #[.agg #[.int .i64 0, .slice a xs.length cap], .slice sa len scap] w fun e w' => ∃ b m g, e = .returned (.pointer (some ⟨b, 0, none⟩)) ∧ Ext Non w w' ∧ LD w' b m g ∧ Inv g ∧ w.heap.size ≤ b ∧ w.heap.size ≤ m := by
  unfold maxLen at hl
  have HH := Go.Lib.hid h
  have HS := Go.Lib.hid hs
  have HX := Go.Lib.hid hx
  clear h hs hx
  go_enter Try.func19, Try.ntmps19
  go_wp2_with fail
  have X1 := Go.Lib.hid ((Ext.refl Non w).alloc (.cells #[.int .i64 0, .slice a xs.length cap] 24))
  refine (ledger_New_ok _ _ _ HX.out _ (HH.out.extN X1.out)).mono ?_
  rintro e w2 ⟨b, m, rfl, x2, L2, hb, hm⟩
  have hb0 : w.heap.size ≤ b := Nat.le_trans X1.out.size hb
  have hm0 : w.heap.size ≤ m := Nat.le_trans X1.out.size hm
  have X2 := Go.Lib.hid (X1.out.trans x2)
  have L2' := Go.Lib.hid L2
  clear x2 L2 hb hm X1
  go_wp2_with fail
  go_loopg [7] len (fun k iv wr => ∃ (i : Nat) (g : Lg), i ≤ len ∧ k = len - i ∧ iv = .int .i64 i ∧ Inv g ∧ LD wr b m g ∧ Ext Non w wr)
  case atStart => exact ⟨0, newL xs, Nat.zero_le _, rfl, rfl, inv_new HX.out, L2'.out, X2.out⟩
  case round =>
    obtain ⟨i, g, hi, rfl, rfl, I, L, x⟩ := hrel
    have II := Go.Lib.hid I; have LL := Go.Lib.hid L; have XX := Go.Lib.hid x
    clear I L x L2' X2
    by_cases hlt : i < len
    · obtain ⟨sb, so, rfl, hsb, p0, p1, p2, p3, p4, p5, p6⟩ := (HS.out.extN XX.out).at_ i hlt
      have OK := Go.Lib.hid (HS.out.ok i hlt)
      generalize F i = q at *
      generalize hqt : q.turn = t at p0
      clear hqt
      cases t
      · go_wp2_with fail
        refine (ask_Request _ _ _ _ _ _ _).mono ?_
        rintro e w6 ⟨rfl, x6⟩
        go_wp2_with fail
        refine (ledger_Do b m g II.out _ _ _ _ _ _ OK.out.c OK.out.s OK.out.k OK.out.id (by have := OK.out.b0; have := OK.out.b1; omega) _ (LL.out.extN x6)).mono ?_
        rintro e w7 ⟨rfl, x7, L7⟩
        have ID := Go.Lib.hid (inv_do II.out q.req (by have := OK.out.b0; have := OK.out.b1; show q.bits.toNat < _; omega)).1
        have X7 := Go.Lib.hid ((XX.out.trans x6).step x7 (fun i hi s => by rcases s with s | s <;> omega))
        have L7' : Hid (LD w7 b m (doL g q.req)) := Go.Lib.hid L7
        clear x6 x7 L7 p0 p1 p2 p3 p4 p5 p6
        generalize doL g q.req = G at *
        go_wp2_with fail
        go_roundg (len - (i + 1))
        case measure => omega
        case rel => exact ⟨i + 1, G, hlt, rfl, by go_num, ID.out, L7'.out, X7.out⟩
      · clear p1 p2 p3 p4 p5 p6
        go_wp2_with fail
        refine (ledger_Turn b m g II.out _ LL.out).mono ?_
        rintro e w7 ⟨rfl, x7, L7⟩
        have X7 := Go.Lib.hid (XX.out.step x7 (fun i hi s => by have s : i = b := s; omega))
        have I7 := Go.Lib.hid (inv_turn II.out)
        have L7' := Go.Lib.hid L7
        clear x7 L7
        go_wp2_with fail
        go_roundg (len - (i + 1))
        case measure => omega
        case rel => exact ⟨i + 1, turnL g, hlt, rfl, by go_num, I7.out, L7'.out, X7.out⟩
    · go_wp2
      go_returns
      exact ⟨b, m, g, rfl, XX.out, LL.out, II.out, hb0, hm0⟩
end Go.Proofs.Ytfefeepljbfcdaa
