/- Joined texts: RepP, RepM, RepM2, Law18P. What each proves stands at its head; no conditions beside those in its theorems. -/
import Derived.Laws.CopyOwn
import Derived.Deep.OwnRows
import Derived.Deep.RegionLaw
import Derived.Test.YtflpkoafebjfdaaGreatProg
import Derived.Shelf.SlIter.Nil
import Derived.Shelf.SortM.Plain
import Derived.Shelf.SortM.SortNone
import Derived.Ground.GgzProg
import Derived.Ground.SlgmProg
import Derived.Test.YtflpkoafebjfdaaGreatPjAE
import Derived.Test.YtflpkoafebjfdaaGreatPjAV
import Derived.Test.YtflpkoafebjfdaaGreatPjBE
/- Layer 18 (replica) in plain words: what each call comes to. No program in sight. -/
namespace Go.Proofs.YtflpkoafebjfdaaGreat
open F64
set_option linter.unusedVariables false
set_option linter.unusedSimpArgs false

/-- A timer. -/
structure Tm where
  fails : Nat
  run : Bool
  fin : Int
def tmStart (t : Tm) (now : Int) : Tm := ⟨t.fails, true, startE t.run t.fin now (waitI t.fails)⟩
def tmStop (t : Tm) : Tm := ⟨t.fails, false, t.fin⟩
def tmFail (t : Tm) : Tm := ⟨failF t.fails, t.run, t.fin⟩
def tmCalm (t : Tm) : Tm := ⟨0, t.run, t.fin⟩
/-- A packet, an entry of a history. -/
structure Pk where
  from_ : Int
  to_ : Int
  msg : Ms
structure En where
  slot : Int
  req : Req
/-- A replica. -/
structure Rp where
  id : Int
  book : Lg
  chain : Tk
  timer : Tm
  waits : Nat → Vt
  says : List Ms
  settled : St
  left : Int
  halted : Bool
  hist : List En
  out : List Pk
  now : Int
  log : Lo
  tally : Tl
  chs : List (Int × Ch)
  active : Bool
  voted : Bool
  next : Int
  begun : Nat
def newRp (id : Int) (mem : List Int) : Rp :=
  ⟨id, newL mem, newTk mem, ⟨0, false, 0⟩, fun _ => zeroV, [], nullSt, 64, false, [], [], 0, newLo 0 mem, newTl 0 mem, [], true, false, 1, 1⟩
def firstR (g : Rp) : Int := g.log.ep * 4 + 1
def memberR (g : Rp) : Bool := hasB g.log.mem g.id
def primI (ep : Int) (mem : List Int) (view : Int) : Int := if confB ep mem = true ∧ 0 ≤ view then mem.getD (view % (mem.length : Int)).toNat 0 else 0
def primR (g : Rp) (view : Int) : Int := primI g.log.ep g.log.mem view
def quorumR (g : Rp) : Int := quorumI g.log.mem.length
/-- A leaf less; or halted. -/
def signG (g : Rp) : Rp := if g.left = 0 then { g with halted := true } else if g.halted = true then g else { g with left := g.left - 1 }
def signB (g : Rp) : Bool := decide (g.left ≠ 0) && !g.halted
def sendG (g : Rp) (to_ : Int) (m : Ms) : Rp := { g with out := g.out ++ [⟨g.id, to_, m⟩] }
def othersR (g : Rp) : List Int := g.log.mem.filter (fun t => decide (t ≠ g.id))
def tellG (g : Rp) (m : Ms) : Rp := { g with out := g.out ++ (othersR g).map (fun t => ⟨g.id, t, m⟩) }
def withEp (m : Ms) (ep : Int) : Ms := { m with ep := ep }
def sayG (g : Rp) (m : Ms) : Rp := { tellG g (withEp m g.log.ep) with says := g.says ++ [withEp m g.log.ep] }
def hushG (g : Rp) (ks : List Int) : Rp := { g with says := g.says.filter (fun m => hasB ks m.kind) }
def anyWait (g : Rp) : Bool := (List.range 9).any (fun i => decide (0 < (g.waits i).req.client))
def restartG (g : Rp) : Rp := { g with timer := if anyWait g = true then tmStart (tmStop g.timer) g.now else tmStop g.timer }
def calmG (g : Rp) : Rp := { g with timer := tmCalm g.timer }
/-- A term anew, of the ledger's epoch. -/
def renewG (g : Rp) : Rp :=
  { g with log := newLo g.book.epoch g.book.mem, tally := newTl g.book.epoch g.book.mem, chs := [], active := true, voted := false, next := g.book.epoch * 4 + 1, says := [], begun := g.begun + 1 }
def putWait (g : Rp) (c : Nat) (v : Vt) : Rp := { g with waits := fun j => if j = c then v else g.waits j }

def msgPropose (g : Rp) (slot : Int) (w : Vt) : Ms := { nullM with kind := 2, view := g.log.view, slot := slot, req := w.req, sigs := [⟨w.by_, w.text⟩] }
def msgPrepare (g : Rp) (slot : Int) (q : Req) (t : ByteArray) : Ms := { nullM with kind := 3, view := g.log.view, slot := slot, req := q, sigs := [⟨g.id, t⟩] }
def msgCommit (g : Rp) (slot : Int) (q : Req) : Ms := { nullM with kind := 4, view := g.log.view, slot := slot, req := q }
def msgReply (g : Rp) (q : Req) (x : Rsl) : Ms := { nullM with kind := 8, ep := g.log.ep, req := q, res := x }
def msgVote (slot : Int) (text : ByteArray) (next : List Int) (sigs : List Sg) : Ms := { nullM with kind := 5, slot := slot, text := text, next := next, sigs := sigs }
def msgChange (view : Int) (x : Ch) : Ms := { nullM with kind := 6, view := view, chs := [x] }
def msgNew (view : Int) (l : List Ch) : Ms := { nullM with kind := 7, view := view, chs := l }
def msgState (g : Rp) : Ms := { nullM with kind := 10, ep := g.settled.lk.ep, slot := g.settled.lk.ep * 4, text := g.settled.text, sigs := g.settled.sigs, lks := chainK g.chain }

/-- One slot more is done. -/
def performG (g : Rp) (q : Req) : Rp :=
  let g1 := { g with book := doL g.book q, hist := g.hist ++ [⟨(doL g.book q).done, q⟩] }
  if nullB q = true then g1 else
    let g2 := sendG g1 (100 + q.client) (msgReply g1 q (doR g.book q))
    if (g2.waits q.client.toNat).req.stamp ≤ q.stamp then putWait g2 q.client.toNat zeroV else g2
def doLoop : Nat → Rp → Rp
  | 0, g => g
  | k + 1, g => if fullB g.book = true then g else match committedO g.log (g.book.done + 1) with | none => g | some q => doLoop k (performG g q)
def voteText (g : Rp) : ByteArray := ledgS (turnL g.book)
def voteNext (g : Rp) : List Int := (turnL g.book).mem
def voteSigs (g : Rp) : List Sg := [⟨g.id, vtxS g.log.ep g.log.mem (voteText g) (voteNext g)⟩, ⟨g.id, vtxC g.log.ep g.log.mem (voteText g) (voteNext g)⟩]
def voteG (g : Rp) : Rp :=
  if turnE g.book = 0 then
    (if signB g = true ∧ signB (signG g) = true then
      let g2 := signG (signG g)
      sayG { g2 with tally := tlAdd g2.tally g.id (voteText g) (voteNext g) (voteSigs g), voted := true } (msgVote g.book.done (voteText g) (voteNext g) (voteSigs g))
    else signG (signG g))
  else { g with halted := true }
def openO (text : ByteArray) (ep : Int) (mem : List Int) : Option Lg :=
  if openB text.data.toList = true ∧ (openG text.data.toList).epoch = ep ∧ (openG text.data.toList).mem = mem ∧ (openG text.data.toList).done = ep * 4 then some (openG text.data.toList) else none
def lastStamp (b : Lg) (c : Nat) : Int := if 1 ≤ c ∧ c ≤ 8 then (b.cl (c - 1)).stamp else 0
def keepWait (g : Rp) (c : Nat) : Vt := if (g.waits c).req.stamp ≤ lastStamp g.book c ∨ memberR g = false then zeroV else g.waits c
def clearWaits (g : Rp) : Rp := { g with waits := fun c => if c < 9 then keepWait g c else g.waits c }
def beginF (P : Rp → Rp) (g : Rp) (book : Lg) (s : St) : Rp := P (restartG (calmG (clearWaits (renewG { g with book := book, settled := s }))))
def goOverF (P : Rp → Rp) (g : Rp) : Rp :=
  if settledB g.tally = true then
    match openO (settledG g.tally).text (settledG g.tally).lk.ep (settledG g.tally).lk.mem with
    | none => g
    | some book => if addKE g.chain (settledG g.tally).lk = 0 then beginF P { g with chain := addK g.chain (settledG g.tally).lk } book (settledG g.tally) else g
  else g
def doneG (g0 g : Rp) : Rp := if g0.book.done < g.book.done then restartG (calmG g) else g
def voteIf (g : Rp) : Rp := if fullB g.book = true ∧ g.voted = false then voteG g else g
def doF (P : Rp → Rp) (g : Rp) : Rp :=
  let g1 := voteIf (doneG g (doLoop 4 g))
  if g1.halted = true then g1 else goOverF P g1
def commitIf (g : Rp) (slot : Int) : Rp :=
  let q := (proposedO g.log slot).getD nullR
  if preparedB g.log slot = true ∧ commitE g.log g.id slot q = 0 then sayG { g with log := commitG g.log g.id slot q } (msgCommit g slot q) else g
def goOnF (P : Rp → Rp) (g : Rp) (slot : Int) : Rp := doF P (commitIf g slot)
def prepText (g : Rp) (slot : Int) (q : Req) : ByteArray := prepS g.log.ep g.log.view slot q
def takeUpF (P : Rp → Rp) (g : Rp) (slot : Int) (q : Req) : Rp :=
  if signB g = true then
    let g1 := signG g
    let g2 := { g1 with log := prepareG g1.log g.id slot q g.id (prepText g slot q) }
    goOnF P (sayG g2 (msgPrepare g2 slot q (prepText g slot q))) slot
  else signG g
def leadsB (g : Rp) : Bool := !g.halted && g.active && memberR g && decide (primR g g.log.view = g.id)
def isProp (g : Rp) (q : Req) (n : Nat) : Bool := match proposedO g.log (firstR g + n) with | some p => sameT p q | none => false
def roomB (g : Rp) (q : Req) : Bool := !((List.range 4).any (isProp g q)) && decide (g.next < firstR g + 4)
def propStep (T : Rp → Int → Req → Rp) (begun : Nat) (g : Rp) (c : Nat) : Rp :=
  if g.begun = begun ∧ leadsB g = true then
    let v := g.waits c
    if v.req.client = 0 ∨ roomB g v.req = false then g else
      let slot := g.next
      let g1 := { g with next := g.next + 1, log := proposeG g.log slot v.req }
      T (sayG g1 (msgPropose g1 slot v)) slot v.req
  else g
def proposeF (T : Rp → Int → Req → Rp) (g : Rp) : Rp := (List.range 8).foldl (fun x i => propStep T g.begun x (i + 1)) g
/-- To propose, with so many leaves left at most. -/
def proposeR : Nat → Rp → Rp
  | 0 => proposeF (fun g _ _ => signG g)
  | n + 1 => proposeF (takeUpF (proposeR n))
def takeUpR : Nat → Rp → Int → Req → Rp
  | 0 => fun g _ _ => signG g
  | n + 1 => takeUpF (proposeR n)
def P64 : Rp → Rp := proposeR 64
def T64 : Rp → Int → Req → Rp := takeUpR 64
def enterStep (begun : Nat) (first : Int) (g : Rp) (i : Nat) (q : Req) : Rp :=
  if g.begun = begun ∧ g.halted = false then T64 { g with log := proposeG g.log (first + i) q } (first + i) q else g
def enterLoop (begun : Nat) (first : Int) (p : List Req) (g : Rp) : Rp := (List.range p.length).foldl (fun x i => enterStep begun first x i (p.getD i nullR)) g
def enterHead (g : Rp) (view : Int) (n : Nat) : Rp :=
  let g1 := if view = g.log.view then hushG g [5, 7] else hushG { g with log := enterG g.log view } [5]
  restartG { g1 with active := true, next := firstR g + n }
def enterR (g : Rp) (view : Int) (p : List Req) : Rp :=
  let g1 := enterHead g view p.length
  let g2 := enterLoop g1.begun (firstR g1) p g1
  if g2.begun = g1.begun then P64 g2 else g2
def cameR (g : Rp) (view : Int) : List Ch := g.log.mem.filterMap (fun id => match getG g.chs id with | some x => if x.view = view then some x else none | none => none)
def leadL (g : Rp) : List Ch := (cameR g g.log.view).take (quorumR g).toNat
def leadInR (g : Rp) : Rp :=
  if g.active = false ∧ primR g g.log.view = g.id ∧ quorumR g ≤ (cameR g g.log.view).length then
    let l := leadL g
    let g1 := sayG g (msgNew g.log.view l)
    enterR g1 g.log.view (if checkE g.log.ep g.log.mem g.log.view l = 0 then pickR g.log.ep l else [])
  else g
def giveUpR (g : Rp) (view : Int) : Rp :=
  if 15 < view then { g with halted := true } else
    let g1 := hushG { g with log := enterG g.log view, active := false } [5]
    let g2 := { g1 with timer := tmStart (tmStop (tmFail g1.timer)) g1.now }
    let x : Ch := ⟨g.id, view, certsG g2.log, 0, ByteArray.empty⟩
    if chE g2.log.ep x = 0 ∧ signB g2 = true then
      let y : Ch := ⟨g.id, view, certsG g2.log, g.id, chS g2.log.ep x⟩
      let g3 := { signG g2 with chs := setG g2.chs g.id y }
      leadInR (sayG g3 (msgChange view y))
    else { signG g2 with halted := true }
/-- Is it the client's signature of its request? -/
def signedB (q : Req) (l : List Sg) : Bool := decide (reqE q = 0) && sameSgs l [⟨100 + q.client, reqS q⟩]
def lastRes (b : Lg) (c : Int) : Rsl := if 1 ≤ c ∧ c ≤ 8 then ⟨(b.cl (c - 1).toNat).code, (b.cl (c - 1).toNat).real⟩ else ⟨0, 0⟩
def sgAt0 (l : List Sg) : Sg := sgAt l 0
def onRequest (g : Rp) (from_ : Int) (m : Ms) : Rp :=
  let q := m.req
  let stamp := lastStamp g.book q.client.toNat
  if memberR g = true ∧ from_ = 100 + q.client ∧ signedB q m.sigs = true ∧ stamp ≤ q.stamp then
    (if q.stamp = stamp then sendG g from_ (msgReply g q (lastRes g.book q.client))
    else if (g.waits q.client.toNat).req.stamp < q.stamp then
      P64 { putWait g q.client.toNat ⟨q, (sgAt0 m.sigs).by_, (sgAt0 m.sigs).text⟩ with timer := tmStart g.timer g.now }
    else g)
  else g
def hereB (g : Rp) (m : Ms) : Bool := g.active && memberR g && decide (m.ep = g.log.ep) && decide (m.view = g.log.view)
def onPropose (g : Rp) (from_ : Int) (m : Ms) : Rp :=
  if hereB g m = true ∧ from_ = primR g g.log.view ∧ (nullB m.req = true ∨ signedB m.req m.sigs = true) ∧ proposeE g.log m.slot m.req = 0 then
    T64 { g with log := proposeG g.log m.slot m.req, timer := tmStart g.timer g.now } m.slot m.req
  else g
def goOnR (g : Rp) (slot : Int) : Rp := goOnF P64 g slot
def onPrepare (g : Rp) (from_ : Int) (m : Ms) : Rp :=
  if hereB g m = true ∧ prepareE g.log from_ m.slot m.req (sgAt0 m.sigs).by_ (sgAt0 m.sigs).text = 0 then
    goOnR { g with log := prepareG g.log from_ m.slot m.req (sgAt0 m.sigs).by_ (sgAt0 m.sigs).text } m.slot
  else g
def onCommit (g : Rp) (from_ : Int) (m : Ms) : Rp :=
  if hereB g m = true ∧ commitE g.log from_ m.slot m.req = 0 then goOnR { g with log := commitG g.log from_ m.slot m.req } m.slot else g
def onVote (g : Rp) (from_ : Int) (m : Ms) : Rp :=
  if m.ep = g.log.ep ∧ tlAddE g.tally from_ m.text m.next m.sigs = 0 then goOverF P64 { g with tally := tlAdd g.tally from_ m.text m.next m.sigs } else g
def aheadB (g : Rp) (m : Ms) : Bool := memberR g && decide (m.ep = g.log.ep) && (decide (g.log.view < m.view) || (decide (m.view = g.log.view) && !g.active))
/-- The views of the changes that came, rising. -/
def viewsR (g : Rp) : List Int := (g.chs.map (fun p => p.2.view)).mergeSort (fun x y => decide (x ≤ y))
def weakI (n : Int) : Int := if n < 1 then 0 else faultsI n + 1
def pullR (g : Rp) : Int := if (g.chs.length : Int) < weakI g.log.mem.length then 0 else (viewsR g).getD (g.chs.length - (weakI g.log.mem.length).toNat) 0
def chView (g : Rp) (id : Int) : Int := match getG g.chs id with | some x => x.view | none => 0
def onChange (g : Rp) (from_ : Int) (m : Ms) : Rp :=
  let x := chAt m.chs 0
  if aheadB g m = true ∧ x.from_ = from_ ∧ rightE g.log.ep g.log.mem x = 0 ∧ chView g from_ < x.view then
    let g1 := { g with chs := setG g.chs from_ x }
    if g1.log.view < pullR g1 then giveUpR g1 (pullR g1) else leadInR g1
  else g
def onNewView (g : Rp) (from_ : Int) (m : Ms) : Rp :=
  if aheadB g m = true ∧ from_ = primR g m.view ∧ checkE g.log.ep g.log.mem m.view m.chs = 0 then enterR g m.view (pickR g.log.ep m.chs) else g
def onFetch (g : Rp) (from_ : Int) (m : Ms) : Rp := if m.ep < g.settled.lk.ep then sendG g from_ (msgState g) else g
def oldConf (g : Rp) (m : Ms) : Int × List Int := if 1 < m.ep then ((lkAt m.lks (m.ep - 2).toNat).ep, (lkAt m.lks (m.ep - 2).toNat).mem) else cfAt g.chain.confs 0
def onState (g : Rp) (m : Ms) : Rp :=
  if m.ep ≤ g.log.ep then g else
    let link := lkAt m.lks (m.ep - 1).toNat
    match openO m.text link.ep link.mem with
    | none => g
    | some book =>
      if provesB (oldConf g m).1 (oldConf g m).2 (stS m.slot m.text) m.sigs = true ∧ takeE g.chain m.lks = 0 then
        beginF P64 { g with chain := takeK g.chain m.lks } book ⟨m.text, m.sigs, link⟩
      else g
def deedG (g : Rp) (from_ : Int) (m : Ms) : Rp :=
  if m.kind = 1 then onRequest g from_ m else if m.kind = 2 then onPropose g from_ m else if m.kind = 3 then onPrepare g from_ m else if m.kind = 4 then onCommit g from_ m
  else if m.kind = 5 then onVote g from_ m else if m.kind = 6 then onChange g from_ m else if m.kind = 7 then onNewView g from_ m else if m.kind = 9 then onFetch g from_ m
  else if m.kind = 10 then onState g m else g
def answerG (g : Rp) : Rp := { g with out := [] }
def answerL (g : Rp) : List Pk := if g.halted = true then [] else g.out
def deafB (g : Rp) (from_ : Int) (m : Ms) : Bool := g.halted || decide (from_ = g.id) || decide (bytesE m ≠ 0)
def heardG (g : Rp) (now from_ : Int) (m : Ms) : Rp := deedG { g with now := now } from_ m
def handleG (g : Rp) (now from_ : Int) (m : Ms) : Rp := if deafB g from_ m = true then g else answerG (heardG g now from_ m)
def handleL (g : Rp) (now from_ : Int) (m : Ms) : List Pk := if deafB g from_ m = true then [] else answerL (heardG g now from_ m)
end Go.Proofs.YtflpkoafebjfdaaGreat

/- Layer 18: what a replica is in memory. -/
namespace Go.Proofs.YtflpkoafebjfdaaGreat
open Go.RowKit Go.Lib F64
set_option linter.unusedSimpArgs false
set_option linter.unusedVariables false

/-- How votes lie in a tally's map; how changes lie in a term's. -/
def voV (p : Vo × (Option Addr × Nat)) : Value := .agg #[.string p.1.st, .string p.1.cf, .string p.1.text, .slice p.2.1 p.1.next.length p.2.2]
def voE : MEnc Int (Vo × (Option Addr × Nat)) := ⟨.int .i64, .int .i64, voV, fun _ => rfl, fun a b h => by injection h⟩
def chV (p : Ch × (Option Addr × Nat)) : Value := .agg (p.1.cells p.2.1 p.2.2).toArray
def chE' : MEnc Int (Ch × (Option Addr × Nat)) := ⟨.int .i64, .int .i64, chV, fun _ => rfl, fun a b h => by injection h⟩
def dropA {K V B : Type} (l : List (K × (V × B))) : List (K × V) := l.map fun p => (p.1, p.2.1)
/-- A map whose keys are two texts. -/
def ckV (k : ByteArray × ByteArray) : Value := .agg #[.string k.1, .string k.2]
structure MapC (w : World) (m : Nat) (ks : List ((ByteArray × ByteArray) × Int)) : Prop where
  ex : ∃ es clock, w.heap[m]? = some (.map es clock) ∧ Go.MapKept.Stamped es clock ∧ es.toList.map (fun e => (e.key, e.val)) = ks.map (fun p => (ckV p.1, .int .i64 p.2))
  ok : ∀ p ∈ ks, p.1.1.size ≤ 2000000 ∧ p.1.2.size ≤ 2000000
theorem MapC.lt {w : World} {m : Nat} {ks : List ((ByteArray × ByteArray) × Int)} (h : MapC w m ks) : m < w.heap.size := by
  obtain ⟨es, c, h, _⟩ := h.ex
  exact (Array.getElem?_eq_some_iff.1 h).1
theorem MapC.ext {S : Nat → Prop} {w w' : World} {m : Nat} {ks : List ((ByteArray × ByteArray) × Int)} (h : MapC w m ks) (x : Ext S w w') (hs : ¬ S m) : MapC w' m ks := by
  have hl := h.lt
  have hok := h.ok
  obtain ⟨es, c, h, r⟩ := h.ex
  exact ⟨⟨es, c, (x.block m hl hs).trans h, r⟩, hok⟩
/-- A vote's fields are such as a machine holds. -/
structure VoOk (v : Vo) : Prop where
  st : v.st.size ≤ 2000000
  cf : v.cf.size ≤ 2000000
  text : v.text.size ≤ 1000000
  next : membersB v.next = true
/-- The parts of a tally. -/
structure TlP (w : World) (col : Nat → Nat) (b : Nat) (t : Tl) (a : Option Addr) (c m1 m2 : Nat) (vs : List (Int × (Vo × (Option Addr × Nat)))) : Prop where
  h : Bx w b [.int .i64 t.ep, .slice a t.mem.length c, .map (some m1), .map (some m2)] 237
  ints : Ints (hide col w) a c t.mem
  mv : MapG voE w m1 vs
  dr : dropA vs = t.votes
  nx : ∀ p ∈ vs, Ints (hide col w) p.2.2.1 p.2.2.2 p.2.1.next ∧ VoOk p.2.1
  mc : MapC w m2 t.count
  cb : col b = 4
  c1 : col m1 = 4
  c2 : col m2 = 4
  inv : TlI t
  m12 : m1 ≠ m2
  b1 : b ≠ m1
  b2 : b ≠ m2
def TlW (w : World) (col : Nat → Nat) (b : Nat) (t : Tl) : Prop := ∃ a c m1 m2 vs, TlP w col b t a c m1 m2 vs
theorem TlP.ext {S : Nat → Prop} {w w' : World} {col col' : Nat → Nat} {b : Nat} {t : Tl} {a : Option Addr} {c m1 m2 : Nat} {vs : List (Int × (Vo × (Option Addr × Nat)))} (h : TlP w col b t a c m1 m2 vs) (x : Ext S w w') (hS : ∀ k, k < w.heap.size → S k → col k ≠ 0 ∧ col k ≠ 4) (hc : ColX w col col') : TlP w' col' b t a c m1 m2 vs := by
  have xc : Ext (Colo col) w w' := x.mono fun k hk hs => (hS k hk hs).1
  have xh := hide_ext xc hc
  have no : ∀ k, k < w.heap.size → col k = 4 → ¬ S k := fun k hk h4 hs => (hS k hk hs).2 h4
  exact ⟨h.h.ext x (no b h.h.lt h.cb), h.ints.extN xh, h.mv.ext x (no m1 h.mv.lt h.c1), h.dr, fun p hp => ⟨(h.nx p hp).1.extN xh, (h.nx p hp).2⟩, h.mc.ext x (no m2 h.mc.lt h.c2),
    (hc b h.h.lt).trans h.cb, (hc m1 h.mv.lt).trans h.c1, (hc m2 h.mc.lt).trans h.c2, h.inv, h.m12, h.b1, h.b2⟩
/-- A map of changes. -/
structure CsW (w : World) (col : Nat → Nat) (m : Nat) (l : List (Int × Ch)) : Prop where
  ex : ∃ vs, MapG chE' w m vs ∧ dropA vs = l ∧ ∀ p ∈ vs, Certs (hide col w) p.2.2.1 p.2.2.2 p.2.1.certs ∧ I64 p.2.1.from_ ∧ I64 p.2.1.view ∧ I64 p.2.1.by_ ∧ p.2.1.text.size ≤ 9223372036854775807
  c : col m = 5
theorem CsW.ext {S : Nat → Prop} {w w' : World} {col col' : Nat → Nat} {m : Nat} {l : List (Int × Ch)} (h : CsW w col m l) (x : Ext S w w') (hS : ∀ k, k < w.heap.size → S k → col k ≠ 0 ∧ col k ≠ 5) (hc : ColX w col col') : CsW w' col' m l := by
  have xc : Ext (Colo col) w w' := x.mono fun k hk hs => (hS k hk hs).1
  have xh := hide_ext xc hc
  obtain ⟨vs, h1, h2, h3⟩ := h.ex
  exact ⟨⟨vs, h1.ext x (fun s => (hS m h1.lt s).2 h.c), h2, fun p hp => ⟨(h3 p hp).1.extN xh, (h3 p hp).2⟩⟩, (hc m h1.lt).trans h.c⟩
/-- A tracker: its configurations, and who signed them. -/
def CfR (z : World) (c : Int × List Int) (v : List Value) : Prop := ∃ a n, v = [.int .i64 c.1, .slice a c.2.length n] ∧ Ints z a n c.2 ∧ I64 c.1
def SsR (z : World) (s : List Sg) (v : List Value) : Prop := ∃ a n, v = [.slice a s.length n] ∧ Sigs z a n s
theorem CfR.len {z : World} : ∀ x v, CfR z x v → v.length = 2 := fun x v ⟨_, _, e, _⟩ => by rw [e]; rfl
theorem SsR.len {z : World} : ∀ x v, SsR z x v → v.length = 1 := fun x v ⟨_, _, e, _⟩ => by rw [e]; rfl
theorem CfR.up {z z' : World} (x : Ext Non z z') : ∀ c v, CfR z c v → CfR z' c v := fun c v ⟨a, n, e, h, r⟩ => ⟨a, n, e, h.extN x, r⟩
theorem SsR.up {z z' : World} (x : Ext Non z z') : ∀ c v, SsR z c v → SsR z' c v := fun c v ⟨a, n, e, h⟩ => ⟨a, n, e, h.extN x⟩
structure TkP (w : World) (col : Nat → Nat) (b : Nat) (t : Tk) (v1 v2 : Value) : Prop where
  h : Bx w b [v1, v2] 165
  r1 : OwnC w col 7 24 2 v1 (CfR (hide col w)) t.confs
  r2 : OwnC w col 7 31 1 v2 (SsR (hide col w)) t.sigs
  c : col b = 7
def TkW (w : World) (col : Nat → Nat) (b : Nat) (t : Tk) : Prop := ∃ v1 v2, TkP w col b t v1 v2
theorem TkP.ext {S : Nat → Prop} {w w' : World} {col col' : Nat → Nat} {b : Nat} {t : Tk} {v1 v2 : Value} (h : TkP w col b t v1 v2) (x : Ext S w w') (hS : ∀ k, k < w.heap.size → S k → col k ≠ 0 ∧ col k ≠ 7) (hc : ColX w col col') : TkP w' col' b t v1 v2 := by
  have xc : Ext (Colo col) w w' := x.mono fun k hk hs => (hS k hk hs).1
  have xh := hide_ext xc hc
  exact ⟨h.h.ext x (fun s => (hS b h.h.lt s).2 h.c), h.r1.ext x (fun k hk s => (hS k hk s).2) hc (CfR.up xh), h.r2.ext x (fun k hk s => (hS k hk s).2) hc (SsR.up xh), (hc b h.h.lt).trans h.c⟩
/-- Messages, packets, entries. -/
def MsR (z : World) (m : Ms) (v : List Value) : Prop := ∃ A, v = m.cells A ∧ MsW z A m
def PkR (z : World) (p : Pk) (v : List Value) : Prop := ∃ A, v = .int .i64 p.from_ :: .int .i64 p.to_ :: p.msg.cells A ∧ MsW z A p.msg ∧ I64 p.from_ ∧ I64 p.to_
def EnR (e : En) (v : List Value) : Prop := v = .int .i64 e.slot :: e.req.cells ∧ ReqOk e.req ∧ I64 e.slot
theorem MsR.len {z : World} : ∀ x v, MsR z x v → v.length = 17 := fun x v ⟨_, e, _⟩ => by rw [e]; rfl
theorem PkR.len {z : World} : ∀ x v, PkR z x v → v.length = 19 := fun x v ⟨_, e, _⟩ => by rw [e]; rfl
theorem EnR.len : ∀ x v, EnR x v → v.length = 7 := fun x v h => by rw [h.1]; rfl
theorem MsR.up {z z' : World} (x : Ext Non z z') : ∀ m v, MsR z m v → MsR z' m v := fun c v ⟨A, e, h⟩ => ⟨A, e, h.extN x⟩
theorem PkR.up {z z' : World} (x : Ext Non z z') : ∀ m v, PkR z m v → PkR z' m v := fun c v ⟨A, e, h, r⟩ => ⟨A, e, h.extN x, r⟩
/-- A ledger: its rows are nobody's. -/
def colS (w : World) (col : Nat → Nat) : Nat → Prop := fun k => k < w.heap.size ∧ col k ≠ 0
structure BkW (w : World) (col : Nat → Nat) (b m : Nat) (g : Lg) : Prop where
  h : Y.LD (colS w col) w b m g
  cb : col b = 6
  cm : col m = 6
theorem BkW.ml {w : World} {col : Nat → Nat} {b m : Nat} {g : Lg} (h : BkW w col b m g) : m < w.heap.size := h.h.mp.lt
theorem BkW.ext {S : Nat → Prop} {w w' : World} {col col' : Nat → Nat} {b m : Nat} {g : Lg} (h : BkW w col b m g) (x : Ext S w w') (hS : ∀ k, k < w.heap.size → S k → col k ≠ 0 ∧ col k ≠ 6) (hc : ColX w col col') : BkW w' col' b m g := by
  have q := h.h.extZ x (fun s => (hS b h.h.lt s).2 h.cb) (fun s => (hS m h.ml s).2 h.cm) (fun k hk s => ⟨hk, (hS k hk s).1⟩)
  obtain ⟨a1, c1, a2, c2, hh, i1, i2, f1, f2⟩ := h.h.ex
  have key : ∀ a : Option Addr, Y.intZ (colS w col) w a → ∀ k o, a = some ⟨k, o, none⟩ → k < w.heap.size ∧ col k = 0 := fun a f k o e => by
    obtain ⟨hn, vs, fr, hk⟩ := f k o e
    have hl := (Array.getElem?_eq_some_iff.1 hk).1
    exact ⟨hl, Classical.byContradiction fun q => hn ⟨hl, q⟩⟩
  obtain ⟨b1, d1, b2, d2, hh', j1, j2, e1, e2⟩ := q.ex
  have hb := (x.block b h.h.lt (fun s => (hS b h.h.lt s).2 h.cb)).trans hh
  have q1 : b1 = a1 := by
    have z1 : w'.cell? ⟨b, 1, none⟩ = some (.slice a1 g.mem.length c1) := cell_of_heap hb rfl
    have z2 : w'.cell? ⟨b, 1, none⟩ = some (.slice b1 g.mem.length d1) := cell_of_heap hh' rfl
    rw [z1] at z2; injection z2 with z2; injection z2 with z2; exact z2.symm
  have q2 : b2 = a2 := by
    have z1 : w'.cell? ⟨b, 2, none⟩ = some (.slice a2 g.next.length c2) := cell_of_heap hb rfl
    have z2 : w'.cell? ⟨b, 2, none⟩ = some (.slice b2 g.next.length d2) := cell_of_heap hh' rfl
    rw [z1] at z2; injection z2 with z2; injection z2 with z2; exact z2.symm
  refine ⟨⟨⟨b1, d1, b2, d2, hh', j1, j2, fun k o e => ⟨fun s => ?_, (e1 k o e).2⟩, fun k o e => ⟨fun s => ?_, (e2 k o e).2⟩⟩, q.mp, fun k hk => hk.1⟩, (hc b h.h.lt).trans h.cb, (hc m h.ml).trans h.cm⟩
  · obtain ⟨u1, u2⟩ := key a1 f1 k o (q1.symm.trans e)
    exact s.2 ((hc k u1).trans u2)
  · obtain ⟨u1, u2⟩ := key a2 f2 k o (q2.symm.trans e)
    exact s.2 ((hc k u1).trans u2)
/-- The log. -/
structure LgW (w : World) (col : Nat → Nat) (b : Nat) (g : Lo) : Prop where
  ex : ∃ G, LoW w b G g ∧ ∀ k, LoF b G k → col k = 3
theorem LgW.ext {S : Nat → Prop} {w w' : World} {col col' : Nat → Nat} {b : Nat} {g : Lo} (h : LgW w col b g) (x : Ext S w w') (hS : ∀ k, k < w.heap.size → S k → col k ≠ 0 ∧ col k ≠ 3) (hc : ColX w col col') : LgW w' col' b g := by
  obtain ⟨G, h1, h2⟩ := h.ex
  have hl : ∀ k, LoF b G k → k < w.heap.size := fun k hk => by rcases hk with rfl | hk; exact h1.bl; exact h1.lt k hk
  exact ⟨G, h1.ext x (fun k hk s => (hS k (hl k hk) s).2 (h2 k hk)), fun k hk => (hc k (hl k hk)).trans (h2 k hk)⟩

/-- The addresses of a replica. -/
structure RA where
  bt : Nat
  bk : Nat
  mb : Nat
  ck : Nat
  tm : Nat
  sv : Value
  sa : Option Addr
  sc : Nat
  ma : Option Addr
  mc : Nat
  la : Option Addr
  lc : Nat
  hv : Value
  ov : Value
  bl : Nat
  ta : Nat
  mch : Nat
  ca : Option Addr
  cc : Nat
def ptr (b : Nat) : Value := .pointer (some ⟨b, 0, none⟩)
def wtCells (v : Vt) : List Value := [.int .i64 v.req.client, .int .i64 v.req.stamp, .int .i64 v.req.op.kind, .string v.req.op.key, .float .f64 v.req.op.real, .int .i64 v.req.op.id, .int .i64 v.by_, .string v.text]
def wtRow (f : Nat → Vt) : List Value := (List.range 9).flatMap (fun i => wtCells (f i))
theorem wtRow_len (f : Nat → Vt) : (wtRow f).length = 72 := rfl
/-- The replica's block: what stands ahead of what waits, and behind it. -/
def rowA (A : RA) (g : Rp) : List Value := [ptr A.bt, .int .i64 g.id, ptr A.bk, ptr A.ck, ptr A.tm]
def rowB (A : RA) (g : Rp) : List Value := [A.sv, .string g.settled.text, .slice A.sa g.settled.sigs.length A.sc, .int .i64 g.settled.lk.ep, .slice A.ma g.settled.lk.mem.length A.mc, .slice A.la g.settled.lk.sigs.length A.lc, .int .i64 g.left, .bool g.halted, A.hv, A.ov, .int .i64 g.now]
def rowRp (A : RA) (g : Rp) : List Value := rowA A g ++ (wtRow g.waits ++ rowB A g)
def rowT (A : RA) (g : Rp) : List Value := [ptr A.bl, ptr A.ta, .map (some A.mch), .int .i64 g.log.ep, .slice A.ca g.log.mem.length A.cc, .bool g.active, .bool g.voted, .int .i64 g.next]
/-- A replica in memory: block b, the colours of the blocks that it owns; but for some colours. -/
structure RepX (ex : Nat → Prop) (w : World) (b : Nat) (col : Nat → Nat) (A : RA) (g : Rp) : Prop where
  row : ¬ ex 1 → Bx w b (rowRp A g) 108
  trm : ¬ ex 2 → Bx w A.bt (rowT A g) 123
  log : ¬ ex 3 → LgW w col A.bl g.log
  tal : ¬ ex 4 → TlW w col A.ta g.tally
  chs : ¬ ex 5 → CsW w col A.mch g.chs
  book : ¬ ex 6 → BkW w col A.bk A.mb g.book
  chn : ¬ ex 7 → TkW w col A.ck g.chain
  tmr : ¬ ex 8 → T3 w A.tm g.timer.fails g.timer.run g.timer.fin
  says : ¬ ex 9 → OwnZ w col 9 43 17 A.sv (MsR (hide col w)) g.says
  hist : ¬ ex 10 → OwnC w col 10 68 7 A.hv EnR g.hist
  out : ¬ ex 11 → OwnC w col 11 54 19 A.ov (PkR (hide col w)) g.out
  ss : Sigs (hide col w) A.sa A.sc g.settled.sigs
  sm : Ints (hide col w) A.ma A.mc g.settled.lk.mem
  sl : Sigs (hide col w) A.la A.lc g.settled.lk.sigs
  conf : Ints (hide col w) A.ca A.cc g.log.mem
  c1 : col b = 1
  b1 : b < w.heap.size
  c2 : col A.bt = 2
  b2 : A.bt < w.heap.size
  c8 : col A.tm = 8
  b8 : A.tm < w.heap.size
  new : ∀ k, w.heap.size ≤ k → col k = 0
def NoEx : Nat → Prop := fun _ => False
abbrev RepW := RepX NoEx
/-- Writes to blocks of the colours left out. -/
theorem RepX.frame {ex ex' S : Nat → Prop} {w w' : World} {b : Nat} {col col' : Nat → Nat} {A : RA} {g : Rp} (h : RepX ex w b col A g) (he : ∀ i, ex i → ex' i) (x : Ext S w w') (hS : ∀ k, k < w.heap.size → S k → col k ≠ 0 ∧ ex' (col k)) (hc : ColX w col col') (hn : ∀ k, w'.heap.size ≤ k → col' k = 0) : RepX ex' w' b col' A g := by
  have xc : Ext (Colo col) w w' := x.mono fun k hk hs => (hS k hk hs).1
  have xh := hide_ext xc hc
  have up : ∀ i, ¬ ex' i → ∀ k, k < w.heap.size → S k → col k ≠ 0 ∧ col k ≠ i := fun i hi k hk s => ⟨(hS k hk s).1, fun e => hi (e ▸ (hS k hk s).2)⟩
  exact {
    row := fun n => (h.row (fun e => n (he _ e))).ext x (fun s => (up 1 n b h.b1 s).2 h.c1)
    trm := fun n => (h.trm (fun e => n (he _ e))).ext x (fun s => (up 2 n _ h.b2 s).2 h.c2)
    log := fun n => (h.log (fun e => n (he _ e))).ext x (up 3 n) hc
    tal := fun n => by obtain ⟨a, c, m1, m2, vs, p⟩ := h.tal (fun e => n (he _ e)); exact ⟨a, c, m1, m2, vs, p.ext x (up 4 n) hc⟩
    chs := fun n => (h.chs (fun e => n (he _ e))).ext x (up 5 n) hc
    book := fun n => (h.book (fun e => n (he _ e))).ext x (up 6 n) hc
    chn := fun n => by obtain ⟨v1, v2, p⟩ := h.chn (fun e => n (he _ e)); exact ⟨v1, v2, p.ext x (up 7 n) hc⟩
    tmr := fun n => (h.tmr (fun e => n (he _ e))).ext x (fun s => (up 8 n _ h.b8 s).2 h.c8)
    says := fun n => (h.says (fun e => n (he _ e))).ext x (fun k hk s => (up 9 n k hk s).2) hc (MsR.up xh)
    hist := fun n => (h.hist (fun e => n (he _ e))).ext x (fun k hk s => (up 10 n k hk s).2) hc (fun _ _ h => h)
    out := fun n => (h.out (fun e => n (he _ e))).ext x (fun k hk s => (up 11 n k hk s).2) hc (PkR.up xh)
    ss := h.ss.extN xh
    sm := h.sm.extN xh
    sl := h.sl.extN xh
    conf := h.conf.extN xh
    c1 := (hc b h.b1).trans h.c1
    b1 := Nat.lt_of_lt_of_le h.b1 x.size
    c2 := (hc _ h.b2).trans h.c2
    b2 := Nat.lt_of_lt_of_le h.b2 x.size
    c8 := (hc _ h.b8).trans h.c8
    b8 := Nat.lt_of_lt_of_le h.b8 x.size
    new := hn }
theorem RepX.extN {ex : Nat → Prop} {w w' : World} {b : Nat} {col : Nat → Nat} {A : RA} {g : Rp} (h : RepX ex w b col A g) (x : Ext Non w w') : RepX ex w' b col A g :=
  h.frame (fun _ e => e) x (fun _ _ f => f.elim) (ColX.refl _ _) (fun k hk => h.new k (Nat.le_trans x.size hk))
open Classical in
/-- Colours for new blocks. -/
noncomputable def colN (w : World) (col : Nat → Nat) (n : Nat) (N : Nat → Prop) : Nat → Nat := fun k => if k < w.heap.size then col k else if N k then n else 0
theorem colN_x (w : World) (col : Nat → Nat) (n : Nat) (N : Nat → Prop) : ColX w col (colN w col n N) := fun k hk => by unfold colN; rw [if_pos hk]
theorem colN_new {w : World} {col : Nat → Nat} {n : Nat} {N : Nat → Prop} {k : Nat} (hk : w.heap.size ≤ k) (h : N k) : colN w col n N k = n := by unfold colN; rw [if_neg (by omega), if_pos h]
theorem colN_no {w : World} {col : Nat → Nat} {n : Nat} {N : Nat → Prop} {k : Nat} (hk : w.heap.size ≤ k) (h : ¬ N k) : colN w col n N k = 0 := by unfold colN; rw [if_neg (by omega), if_neg h]
/-- Terms, old ones too, are still blocks of cells. -/
def TermK (col : Nat → Nat) (w w' : World) : Prop := ∀ i, col i = 2 → (∃ c t, w.heap[i]? = some (.cells c t (0, 0))) → ∃ c t, w'.heap[i]? = some (.cells c t (0, 0))
theorem TermK.refl (col : Nat → Nat) (w : World) : TermK col w w := fun _ _ h => h
theorem TermK.of {S : Nat → Prop} {col : Nat → Nat} {w w' : World} (x : Ext S w w') (hS : ∀ i, S i → col i ≠ 2) : TermK col w w' := fun i hi ⟨c, t, h⟩ =>
  ⟨c, t, (x.block i (Array.getElem?_eq_some_iff.1 h).1 (fun s => hS i s hi)).trans h⟩
theorem TermK.ofN {col : Nat → Nat} {w w' : World} (x : Ext Non w w') : TermK col w w' := .of x (fun _ f => f.elim)
theorem TermK.trans {col col' : Nat → Nat} {w w' w'' : World} (h : TermK col w w') (k : TermK col' w' w'') (hc : ColX w col col') : TermK col w w'' := fun i hi hx => k i ((hc i (by obtain ⟨c, t, q⟩ := hx; exact (Array.getElem?_eq_some_iff.1 q).1)).trans hi) (h i hi hx)
theorem TermK.set {col : Nat → Nat} {w : World} (k j : Nat) (v : Value) : TermK col w (w.setCell ⟨k, j, none⟩ v) := fun i hi ⟨c, t, h⟩ => by
  by_cases e : k = i
  · subst e; exact ⟨_, t, by simp only [World.setCell, Array.getElem?_modify, h, if_true]; rfl⟩
  · exact ⟨c, t, by simp only [World.setCell, Array.getElem?_modify, if_neg e]; exact h⟩
/-- What a call leaves: the replica's plain state, old colours, the same term or a new one. -/
structure RPost (w : World) (b : Nat) (col : Nat → Nat) (A : RA) (g : Rp) (w' : World) (g' : Rp) : Prop where
  ex : ∃ col' A', RepW w' b col' A' g' ∧ ColX w col col' ∧ ((g'.begun = g.begun ∧ A'.bt = A.bt) ∨ (g.begun < g'.begun ∧ w.heap.size ≤ A'.bt))
  x : Ext (Colo col) w w'
  k : TermK col w w'
end Go.Proofs.YtflpkoafebjfdaaGreat

/- Layer 18: a replica's cells, and what writes make of it. -/
namespace Go.Proofs.YtflpkoafebjfdaaGreat
open Go.RowKit Go.Lib F64
set_option linter.unusedSimpArgs false
set_option linter.unusedVariables false

section
variable {ex : Nat → Prop} {w : World} {b : Nat} {col : Nat → Nat} {A : RA} {g : Rp}
theorem RepX.t0 (h : RepX ex w b col A g) (n : ¬ ex 1) : w.cell? ⟨b, 0, none⟩ = some (.pointer (some ⟨A.bt, 0, none⟩)) := (h.row n).cell rfl
theorem RepX.rid (h : RepX ex w b col A g) (n : ¬ ex 1) : w.cell? ⟨b, 1, none⟩ = some (.int .i64 g.id) := (h.row n).cell rfl
theorem RepX.rbk (h : RepX ex w b col A g) (n : ¬ ex 1) : w.cell? ⟨b, 2, none⟩ = some (.pointer (some ⟨A.bk, 0, none⟩)) := (h.row n).cell rfl
theorem RepX.rtm (h : RepX ex w b col A g) (n : ¬ ex 1) : w.cell? ⟨b, 4, none⟩ = some (.pointer (some ⟨A.tm, 0, none⟩)) := (h.row n).cell rfl
theorem RepX.rsay (h : RepX ex w b col A g) (n : ¬ ex 1) : w.cell? ⟨b, 77, none⟩ = some A.sv := (h.row n).cell rfl
theorem RepX.rleft (h : RepX ex w b col A g) (n : ¬ ex 1) : w.cell? ⟨b, 83, none⟩ = some (.int .i64 g.left) := (h.row n).cell rfl
theorem RepX.rhal (h : RepX ex w b col A g) (n : ¬ ex 1) : w.cell? ⟨b, 84, none⟩ = some (.bool g.halted) := (h.row n).cell rfl
theorem RepX.rout (h : RepX ex w b col A g) (n : ¬ ex 1) : w.cell? ⟨b, 86, none⟩ = some A.ov := (h.row n).cell rfl
theorem RepX.rnow (h : RepX ex w b col A g) (n : ¬ ex 1) : w.cell? ⟨b, 87, none⟩ = some (.int .i64 g.now) := (h.row n).cell rfl
theorem RepX.rf (h : RepX ex w b col A g) (n : ¬ ex 1) (j : Nat) : w.frozen? ⟨b, j, none⟩ = false := froz_of_heap (h.row n).h
theorem RepX.tlog (h : RepX ex w b col A g) (n : ¬ ex 2) : w.cell? ⟨A.bt, 0, none⟩ = some (.pointer (some ⟨A.bl, 0, none⟩)) := (h.trm n).cell rfl
theorem RepX.ttal (h : RepX ex w b col A g) (n : ¬ ex 2) : w.cell? ⟨A.bt, 1, none⟩ = some (.pointer (some ⟨A.ta, 0, none⟩)) := (h.trm n).cell rfl
theorem RepX.tep (h : RepX ex w b col A g) (n : ¬ ex 2) : w.cell? ⟨A.bt, 3, none⟩ = some (.int .i64 g.log.ep) := (h.trm n).cell rfl
theorem RepX.tmem (h : RepX ex w b col A g) (n : ¬ ex 2) : w.cell? ⟨A.bt, 4, none⟩ = some (.slice A.ca g.log.mem.length A.cc) := (h.trm n).cell rfl
theorem RepX.tact (h : RepX ex w b col A g) (n : ¬ ex 2) : w.cell? ⟨A.bt, 5, none⟩ = some (.bool g.active) := (h.trm n).cell rfl
theorem RepX.tvot (h : RepX ex w b col A g) (n : ¬ ex 2) : w.cell? ⟨A.bt, 6, none⟩ = some (.bool g.voted) := (h.trm n).cell rfl
theorem RepX.tnext (h : RepX ex w b col A g) (n : ¬ ex 2) : w.cell? ⟨A.bt, 7, none⟩ = some (.int .i64 g.next) := (h.trm n).cell rfl
theorem RepX.tf (h : RepX ex w b col A g) (n : ¬ ex 2) (j : Nat) : w.frozen? ⟨A.bt, j, none⟩ = false := froz_of_heap (h.trm n).h
end
/-- A cell of the replica's own block is written. -/
theorem RepX.setB {ex : Nat → Prop} {w : World} {b : Nat} {col : Nat → Nat} {A : RA} {g : Rp} (h : RepX ex w b col A g) (n1 : ¬ ex 1) {l nw : Int} {a : Bool} (j : Nat) (v : Value) (hr : (rowRp A g).set j v = rowRp A { g with left := l, halted := a, now := nw }) : RepX ex (w.setCell ⟨b, j, none⟩ v) b col A { g with left := l, halted := a, now := nw } := by
  have x : Ext (One b) w (w.setCell ⟨b, j, none⟩ v) := (Ext.refl _ _).set1 v
  have f := h.frame (ex' := fun i => ex i ∨ i = 1) (fun _ e => .inl e) x (fun k hk s => by have s : k = b := s; subst s; exact ⟨by rw [h.c1]; decide, .inr h.c1⟩) (ColX.refl _ _) (fun k hk => h.new k (Nat.le_trans x.size hk))
  have B := (h.row n1).set (j := j) v
  rw [hr] at B
  have no : ∀ {i}, ¬ ex i → i ≠ 1 → ¬ (ex i ∨ i = 1) := fun n ne e => e.elim n ne
  exact ⟨fun _ => B, fun n => f.trm (no n (by decide)), fun n => f.log (no n (by decide)), fun n => f.tal (no n (by decide)), fun n => f.chs (no n (by decide)), fun n => f.book (no n (by decide)), fun n => f.chn (no n (by decide)), fun n => f.tmr (no n (by decide)),
    fun n => f.says (no n (by decide)), fun n => f.hist (no n (by decide)), fun n => f.out (no n (by decide)), f.ss, f.sm, f.sl, f.conf, f.c1, f.b1, f.c2, f.b2, f.c8, f.b8, f.new⟩
/-- A cell of the term's block is written. -/
theorem RepX.setT {ex : Nat → Prop} {w : World} {b : Nat} {col : Nat → Nat} {A : RA} {g : Rp} (h : RepX ex w b col A g) (n2 : ¬ ex 2) {nx : Int} {a vo : Bool} (j : Nat) (v : Value) (hr : (rowT A g).set j v = rowT A { g with active := a, voted := vo, next := nx }) : RepX ex (w.setCell ⟨A.bt, j, none⟩ v) b col A { g with active := a, voted := vo, next := nx } := by
  have x : Ext (One A.bt) w (w.setCell ⟨A.bt, j, none⟩ v) := (Ext.refl _ _).set1 v
  have f := h.frame (ex' := fun i => ex i ∨ i = 2) (fun _ e => .inl e) x (fun k hk s => by have s : k = A.bt := s; subst s; exact ⟨by rw [h.c2]; decide, .inr h.c2⟩) (ColX.refl _ _) (fun k hk => h.new k (Nat.le_trans x.size hk))
  have B := (h.trm n2).set (j := j) v
  rw [hr] at B
  have no : ∀ {i}, ¬ ex i → i ≠ 2 → ¬ (ex i ∨ i = 2) := fun n ne e => e.elim n ne
  exact ⟨fun n => f.row (no n (by decide)), fun _ => B, fun n => f.log (no n (by decide)), fun n => f.tal (no n (by decide)), fun n => f.chs (no n (by decide)), fun n => f.book (no n (by decide)), fun n => f.chn (no n (by decide)), fun n => f.tmr (no n (by decide)),
    fun n => f.says (no n (by decide)), fun n => f.hist (no n (by decide)), fun n => f.out (no n (by decide)), f.ss, f.sm, f.sl, f.conf, f.c1, f.b1, f.c2, f.b2, f.c8, f.b8, f.new⟩
/-- The timer's block is written. -/
theorem RepX.setTm {ex S : Nat → Prop} {w w' : World} {b : Nat} {col : Nat → Nat} {A : RA} {g : Rp} (h : RepX ex w b col A g) (x : Ext S w w') (hS : ∀ k, S k → k = A.tm) (t : Tm) (hT : T3 w' A.tm t.fails t.run t.fin) : RepX ex w' b col A { g with timer := t } := by
  have f := h.frame (ex' := fun i => ex i ∨ i = 8) (fun _ e => .inl e) x (fun k hk s => by have s := hS k s; subst s; exact ⟨by rw [h.c8]; decide, .inr h.c8⟩) (ColX.refl _ _) (fun k hk => h.new k (Nat.le_trans x.size hk))
  have no : ∀ {i}, ¬ ex i → i ≠ 8 → ¬ (ex i ∨ i = 8) := fun n ne e => e.elim n ne
  exact ⟨fun n => f.row (no n (by decide)), fun n => f.trm (no n (by decide)), fun n => f.log (no n (by decide)), fun n => f.tal (no n (by decide)), fun n => f.chs (no n (by decide)), fun n => f.book (no n (by decide)), fun n => f.chn (no n (by decide)), fun _ => hT,
    fun n => f.says (no n (by decide)), fun n => f.hist (no n (by decide)), fun n => f.out (no n (by decide)), f.ss, f.sm, f.sl, f.conf, f.c1, f.b1, f.c2, f.b2, f.c8, f.b8, f.new⟩
/-- The log is written. -/
theorem RepX.setLog {ex : Nat → Prop} {w w' : World} {b : Nat} {col : Nat → Nat} {A : RA} {g : Rp} (h : RepX ex w b col A g) {G G' : Nat → Prop} (hG : ∀ k, LoF A.bl G k → col k = 3) (x : Ext (LoF A.bl G) w w') {lg : Lo} (hL : LoW w' A.bl G' lg) (hn : ∀ k, G' k → G k ∨ w.heap.size ≤ k) (he : lg.ep = g.log.ep) (hm : lg.mem = g.log.mem) :
    ∃ col', RepX ex w' b col' A { g with log := lg } ∧ ColX w col col' ∧ Ext (Colo col) w w' ∧ TermK col w w' := by
  have xs : Ext (Colo col) w w' := x.mono fun k hk s => by show col k ≠ 0; rw [hG k s]; decide
  have f := h.frame (ex' := fun i => ex i ∨ i = 3) (col' := colN w col 3 (LoF A.bl G')) (fun _ e => .inl e) x (fun k hk s => by rw [hG k s]; exact ⟨by decide, .inr rfl⟩) (colN_x _ _ _ _) (fun k hk => colN_no (Nat.le_trans x.size hk) (fun s => by
    rcases s with rfl | s
    · have := hL.bl; omega
    · have := hL.lt k s; omega))
  have no : ∀ {i}, ¬ ex i → i ≠ 3 → ¬ (ex i ∨ i = 3) := fun n ne e => e.elim n ne
  have hlog : LgW w' (colN w col 3 (LoF A.bl G')) A.bl lg := ⟨G', hL, fun k hk => by
    by_cases hl : k < w.heap.size
    · rw [colN_x w col 3 _ k hl]
      rcases hk with rfl | hk
      · exact hG _ (.inl rfl)
      · rcases hn k hk with q | q
        · exact hG _ (.inr q)
        · omega
    · exact colN_new (by omega) hk⟩
  refine ⟨_, ⟨fun n => f.row (no n (by decide)), fun n => ?_, fun _ => hlog, fun n => f.tal (no n (by decide)), fun n => f.chs (no n (by decide)), fun n => f.book (no n (by decide)), fun n => f.chn (no n (by decide)), fun n => f.tmr (no n (by decide)),
    fun n => f.says (no n (by decide)), fun n => f.hist (no n (by decide)), fun n => f.out (no n (by decide)), f.ss, f.sm, f.sl, ?_, f.c1, f.b1, f.c2, f.b2, f.c8, f.b8, f.new⟩, colN_x _ _ _ _, xs, .of x (fun i s => by rw [hG i s]; decide)⟩
  · have := f.trm (no n (by decide))
    unfold rowT at this ⊢
    simp only [he, hm]
    exact this
  · simp only [hm]
    exact f.conf
theorem Ext.ofCol {col : Nat → Nat} {w w' w'' : World} {col' : Nat → Nat} (x : Ext (Colo col) w w') (hc : ColX w col col') (y : Ext (Colo col') w' w'') : Ext (Colo col) w w'' :=
  x.step y (fun i hi s => by unfold Colo at *; rw [hc i hi] at s; exact s)
end Go.Proofs.YtflpkoafebjfdaaGreat

/- The law of layer 18: what lives() looks at, in plain words. No program in sight. -/
namespace Go.Proofs.YtflpkoafebjfdaaGreat
open F64
def askQ : Req := ⟨1, 1, ⟨6, ByteArray.empty, 0, 5⟩⟩
def askM : Ms := { nullM with kind := 1, req := askQ, sigs := [⟨101, reqS askQ⟩] }
def four18 : List Int := [0, 1, 2, 3]
def livesL : List Pk := handleL (newRp 0 four18) 1 101 askM
def livesG : Rp := handleG (newRp 0 four18) 1 101 askM
theorem l18_len : livesL.length = 6 := by decide +kernel
theorem l18_0 : (livesL.getD 0 ⟨0, 0, nullM⟩).msg.kind = 2 := by decide +kernel
theorem l18_3 : (livesL.getD 3 ⟨0, 0, nullM⟩).msg.kind = 3 := by decide +kernel
theorem l18_5 : (livesL.getD 5 ⟨0, 0, nullM⟩).to_ = 3 := by decide +kernel
theorem l18_left : livesG.left = 63 := by decide +kernel
theorem l18_act : livesG.active = true := by decide +kernel
end Go.Proofs.YtflpkoafebjfdaaGreat
