/- Joined texts: Law16, Lives16, SlotsP. What each proves stands at its head; no conditions beside those in its theorems. -/
import Derived.Test.YtflpkoafebjfdaaGreatPjAD
import Derived.Test.YtflpkoafebjfdaaGreatPjAQ
/- Contracts of layer 16's law functions: four, signed. -/
namespace Go.Proofs.YtflpkoafebjfdaaGreat
open Go.RowKit Go.Lib F64
set_option linter.unusedSimpArgs false
set_option linter.unusedVariables false
attribute [local go_sem] run_store_float
attribute [local go_sem low] EW.cellN EW.frozN alloc_cell_or alloc_froz_or EW.cellF EW.frozF EW.cell1 EW.froz1
attribute [local go_sem] relAt relUpon
theorem ints_box (w : World) (xs : List Int) (t : TypeId) (k : Nat) (h : Bx w k (xs.map (Value.int .i64)) t) (hm : xs.length ≤ 9223372036854775807) (hx : ∀ x ∈ xs, I64 x) : Ints w (some ⟨k, 0, none⟩) xs.length xs :=
  ⟨Nat.le_refl _, hm, (fun e => by cases e), fun j hj => ⟨k, 0, rfl, by rw [Nat.zero_add]; exact h.cell (by rw [List.getElem?_map, List.getElem?_eq_getElem hj]; rfl), hx _ (List.getElem_mem hj)⟩⟩
theorem Sigs.ext {S : Nat → Prop} {w w' : World} {a : Option Addr} {cap : Nat} {l : List Sg} (h : Sigs w a cap l) (x : Ext S w w') (hs : ∀ b o, a = some ⟨b, o, none⟩ → ¬ S b) : Sigs w' a cap l :=
  ⟨h.le, h.small, fun j hj => by
    obtain ⟨b, o, e, hb, c0, c1, r⟩ := h.at_ j hj
    exact ⟨b, o, e, Nat.lt_of_lt_of_le hb x.size, (x.cell (p := ⟨b, o + j * 2, none⟩) hb (hs b o e)).trans c0, (x.cell (p := ⟨b, o + j * 2 + 1, none⟩) hb (hs b o e)).trans c1, r⟩⟩
theorem prepS_size (e v sl : Int) (r : Req) : (prepS e v sl r).size ≤ 100 := by
  have h := reqS_size r
  unfold reqS at h
  have h1 : (reqL r).length ≤ 34 := by simpa [ByteArray.size] using h
  unfold prepS prepL
  split
  · show (headL 80 e v sl ++ reqL r).toArray.size ≤ 100
    unfold headL big1 big4
    simp; omega
  · show ([] : List UInt8).toArray.size ≤ 100
    simp
def sigCells (l : List Sg) : List Value := l.flatMap fun s => [.int .i64 s.by_, .string s.text]
theorem sigCells_snoc (l : List Sg) (s : Sg) : sigCells (l ++ [s]) = sigCells l ++ [.int .i64 s.by_, .string s.text] := by simp [sigCells]
theorem info_sig : (Tryz.prog.info? 48).map (fun i => (i.zero, i.size, i.bytes)) = some (some (.agg #[.int .i64 0, .string ByteArray.empty]), 2, 24) := by kernel_rfl
theorem sigCells_get : ∀ (l : List Sg) (j i : Nat) (h : j < l.length), i < 2 → (sigCells l)[j * 2 + i]? = ([.int .i64 l[j].by_, .string l[j].text] : List Value)[i]?
  | r :: t, 0, i, _, hi => by
    show ([.int .i64 r.by_, .string r.text] ++ sigCells t)[0 * 2 + i]? = _
    rw [List.getElem?_append_left (by show 0 * 2 + i < 2; omega), Nat.zero_mul, Nat.zero_add]; rfl
  | r :: t, j + 1, i, h, hi => by
    show ([.int .i64 r.by_, .string r.text] ++ sigCells t)[(j + 1) * 2 + i]? = _
    rw [List.getElem?_append_right (by show 2 ≤ _; omega), show (j + 1) * 2 + i - ([.int .i64 r.by_, .string r.text] : List Value).length = j * 2 + i by show (j + 1) * 2 + i - 2 = _; omega]
    exact sigCells_get t j i (by simpa using h) hi
theorem sigs_of_own {w : World} {base : Nat} {e : TypeId} {v : Value} {n : Nat} {l : List Sg} (h : w.ownsRow base e 2 v n (sigCells l)) (hn : n = l.length) (hi : ∀ s ∈ l, I64 s.by_ ∧ s.text.size ≤ 9223372036854775807) : ∃ a cap, v = .slice a n cap ∧ Sigs w a cap l := by
  subst hn
  rcases h.2 with ⟨rfl, hn⟩ | ⟨g, cap, cur, rfl, hb, hg, hc, hm, hs, ht⟩
  · exact ⟨none, 0, by rw [hn], by omega, by omega, fun j hj => by omega⟩
  · refine ⟨_, cap, rfl, hc, by unfold maxLen at hm; omega, fun j hj => ?_⟩
    have key : ∀ i u, i < 2 → ([.int .i64 l[j].by_, .string l[j].text] : List Value)[i]? = some u → w.cell? ⟨g, j * 2 + i, none⟩ = some u := by
      intro i u hi2 hu
      have e := sigCells_get l j i hj hi2
      rw [hu, ← ht, List.getElem?_take, if_pos (by omega), Array.getElem?_toList] at e
      have hgc : w.cell? ⟨g, j * 2 + i, none⟩ = cur[j * 2 + i]? := by simp [World.cell?, hg]
      rw [hgc]; exact e
    rw [sgAt_get hj]
    have hh := hi _ (List.getElem_mem hj)
    exact ⟨g, 0, rfl, (Array.getElem?_eq_some_iff.1 hg).1, by rw [Nat.zero_add]; exact key 0 _ (by omega) rfl, by rw [Nat.zero_add]; exact key 1 _ (by omega) rfl, hh.1, hh.2⟩
end Go.Proofs.YtflpkoafebjfdaaGreat

/- Layer 16's lives: one of three changes has a certificate of the third slot. -/
namespace Go.Proofs.YtflpkoafebjfdaaGreat
open Go.RowKit Go.Lib F64
set_option linter.unusedSimpArgs false
set_option linter.unusedVariables false
attribute [local go_sem] run_store_float
attribute [local go_sem low] EW.cellN EW.frozN alloc_cell_or alloc_froz_or EW.cellF EW.frozF EW.cell1 EW.froz1
attribute [local go_sem] relAt relUpon
def sameT (a b : Req) : Bool := (reqE a == 0) && (reqE b == 0) && ((reqS a).toList == (reqS b).toList)
theorem WOk.byte {W : Wr} (h : WOk W) (n : Int) : WOk (byteW W n) := h.put _ _
theorem WOk.word {W : Wr} (h : WOk W) (n : Int) : WOk (wordW W n) := h.put _ _
theorem WOk.text {W : Wr} (h : WOk W) (s : List UInt8) : WOk (textW W s) := h.put _ _
theorem WOk.sigs : ∀ (l : List Sg) {W : Wr} (h : WOk W), WOk (wSigs W l)
  | [], _, h => h
  | s :: t, W, h => WOk.sigs t (W := wSig W s) ((h.byte _).text _)
theorem WOk.certs : ∀ (l : List Ct) {W : Wr} (h : WOk W), WOk (wCerts W l)
  | [], _, h => h
  | x :: t, W, h => WOk.certs t (W := wCert W x) (WOk.sigs _ ((((h.byte _).word _).text _).byte _))
end Go.Proofs.YtflpkoafebjfdaaGreat

/- Layer 14 (slots) in plain words: logs, votes, what is prepared and committed. No program in sight. -/
namespace Go.Proofs.YtflpkoafebjfdaaGreat
open F64
set_option linter.unusedVariables false
set_option linter.unusedSimpArgs false

/-- A vote. -/
structure Vt where
  req : Req
  by_ : Int
  text : ByteArray
/-- A slot. -/
structure Sl where
  prop : Option Req
  prep : List (Int × Vt)
  com : List (Int × Vt)
  cert : Option Ct
  done : Option Req
/-- A log. -/
structure Lo where
  ep : Int
  mem : List Int
  view : Int
  sl : Nat → Sl
def Vt.ok (v : Vt) : Prop := ReqOk v.req ∧ I64 v.by_ ∧ v.text.size ≤ 9223372036854775807
def zeroV : Vt := ⟨nullR, 0, ByteArray.empty⟩
theorem zeroV_ok : zeroV.ok := ⟨⟨by unfold I64 zeroV nullR; simp, by unfold I64 zeroV nullR; simp, by unfold I64 zeroV nullR; simp, by unfold I64 zeroV nullR; simp, by decide, by decide⟩, by unfold I64 zeroV; simp, by decide⟩
/-- The signature of one who voted for a request. -/
def sigFor (votes : List (Int × Vt)) (r : Req) (id : Int) : Option Sg :=
  match getG votes id with
  | some v => if sameT v.req r = true then some ⟨v.by_, v.text⟩ else none
  | none => none
def agreeG (votes : List (Int × Vt)) (r : Req) (ms : List Int) : List Sg := ms.filterMap (sigFor votes r)
def agreeO (votes : List (Int × Vt)) (o : Option Req) (ms : List Int) : List Sg := match o with | none => [] | some r => agreeG votes r ms
theorem agreeG_snoc (votes : List (Int × Vt)) (r : Req) (ms : List Int) (i : Nat) (h : i < ms.length) : agreeG votes r (ms.take (i + 1)) = agreeG votes r (ms.take i) ++ (sigFor votes r ms[i]).toList := by
  unfold agreeG
  rw [List.take_succ_eq_append_getElem h, List.filterMap_append]
  congr 1
def enoughB (ms : List Int) (n : Nat) : Bool := decide (quorumI ms.length ≤ (n : Int))
/-- What is kept from now on of a slot. -/
def lookS (ms : List Int) (view n : Int) (s : Sl) : Sl :=
  if enoughB ms (agreeO s.prep s.prop ms).length = true then
    let c : Option Ct := match s.cert with
      | none => some ⟨view, n, s.prop.getD nullR, agreeO s.prep s.prop ms⟩
      | some c => if c.view < view then some ⟨view, n, s.prop.getD nullR, agreeO s.prep s.prop ms⟩ else some c
    let d : Option Req := match s.done with
      | none => if enoughB ms (agreeO s.com s.prop ms).length = true then s.prop else none
      | some r => some r
    { s with cert := c, done := d }
  else s
def emptyS : Sl := ⟨none, [], [], none, none⟩
def clearS (s : Sl) : Sl := { s with prop := none, prep := [], com := [] }
def newLo (ep : Int) (ms : List Int) : Lo := ⟨ep, ms, 0, fun _ => emptyS⟩
/-- Which slot of its epoch a number is. -/
def idxN (ep n : Int) : Option Nat := if 4 * ep + 1 ≤ n ∧ n < 4 * ep + 5 then some (n - (4 * ep + 1)).toNat else none
theorem idxN_lt {ep n : Int} {i : Nat} (h : idxN ep n = some i) : i < 4 ∧ n = 4 * ep + 1 + i := by
  unfold idxN at h
  split at h
  · injection h with h; omega
  · cases h
def putS (g : Lo) (i : Nat) (s : Sl) : Lo := { g with sl := fun j => if j = i then s else g.sl j }
def proposeE (g : Lo) (n : Int) (r : Req) : Int :=
  if askedB r = true then (match idxN g.ep n with
    | none => 14
    | some i => match (g.sl i).prop with | some x => if sameT x r = true then 7 else 22 | none => 0) else 1
def proposeG (g : Lo) (n : Int) (r : Req) : Lo :=
  if proposeE g n r = 0 then (match idxN g.ep n with | some i => putS g i (lookS g.mem g.view n { g.sl i with prop := some r }) | none => g) else g
def prepareE (g : Lo) (id n : Int) (r : Req) (by_ : Int) (text : ByteArray) : Int :=
  if askedB r = true then (match idxN g.ep n with
    | none => 14
    | some i => if hasB g.mem id = true then (if by_ = id ∧ text = prepS g.ep g.view n r then (if hasG (g.sl i).prep id = true then 7 else 0) else 16) else 8) else 1
def prepareG (g : Lo) (id n : Int) (r : Req) (by_ : Int) (text : ByteArray) : Lo :=
  if prepareE g id n r by_ text = 0 then (match idxN g.ep n with | some i => putS g i (lookS g.mem g.view n { g.sl i with prep := setG (g.sl i).prep id ⟨r, by_, text⟩ }) | none => g) else g
def commitE (g : Lo) (id n : Int) (r : Req) : Int :=
  if askedB r = true then (match idxN g.ep n with
    | none => 14
    | some i => if hasB g.mem id = true then (if hasG (g.sl i).com id = true then 7 else 0) else 8) else 1
def commitG (g : Lo) (id n : Int) (r : Req) : Lo :=
  if commitE g id n r = 0 then (match idxN g.ep n with | some i => putS g i (lookS g.mem g.view n { g.sl i with com := setG (g.sl i).com id ⟨r, 0, ByteArray.empty⟩ }) | none => g) else g
def enterE (g : Lo) (view : Int) : Int := if view ≤ g.view ∨ 15 < view then 13 else 0
def enterG (g : Lo) (view : Int) : Lo := if enterE g view = 0 then { g with view := view, sl := fun j => clearS (g.sl j) } else g
def proposedO (g : Lo) (n : Int) : Option Req := match idxN g.ep n with | none => none | some i => (g.sl i).prop
def committedO (g : Lo) (n : Int) : Option Req := match idxN g.ep n with | none => none | some i => (g.sl i).done
def preparedB (g : Lo) (n : Int) : Bool := match idxN g.ep n with | none => false | some i => enoughB g.mem (agreeO (g.sl i).prep (g.sl i).prop g.mem).length
def certsG (g : Lo) : List Ct := (List.range 4).filterMap fun i => (g.sl i).cert
end Go.Proofs.YtflpkoafebjfdaaGreat
