/- Joined texts: SlotsPlays14. What each proves stands at its head; no conditions beside those in its theorems. -/
import Derived.Laws.CopyOwn
import Derived.Deep.OwnRows
import Derived.Deep.RegionLaw
import Derived.Test.YtakbkpklfihfiaaPjAF
import Derived.Test.YtakbkpklfihfiaaPjBV
/- SlotsPlays: the walk. -/
namespace Go.Proofs.Ytakbkpklfihfiaa
open Go.RowKit Go.Lib F64
set_option linter.unusedSimpArgs false
set_option linter.unusedVariables false
attribute [local go_sem] run_store_float
attribute [local go_sem low] EW.cellN EW.frozN alloc_cell_or alloc_froz_or EW.cellF EW.frozF EW.cell1 EW.froz1
attribute [local go_sem] relAt relUpon relAtT relUponT
attribute [local go_sem low] EW.cellO EW.frozO
theorem few_of_sim {g : Lo} {m : RL14} (s : Sim g m) (I : LoI g) (hv : 0 ≤ g.view ∧ g.view ≤ 15) (hml : g.mem.length ≤ 10) : Few14 m ∧ m.props.length ≤ 999 ∧ m.votes.length ≤ 999 := by
  have h1 : sizeG g = m.props.length + m.votes.length := s.size
  have h2 := I.size
  have h3 : m.kept.length ≤ 4 := by
    rw [s.kl]; unfold sum4
    have := cb_le (g.sl 0); have := cb_le (g.sl 1); have := cb_le (g.sl 2); have := cb_le (g.sl 3)
    omega
  have h4 : m.done.length ≤ 4 := by
    rw [s.dl]; unfold sum4
    have := db_le (g.sl 0); have := db_le (g.sl 1); have := db_le (g.sl 2); have := db_le (g.sl 3)
    omega
  exact ⟨⟨by rw [s.mem]; omega, by omega, by omega, by omega, by omega, by rw [s.view]; unfold I64; omega⟩, by omega, by omega⟩
theorem sim_step {g : Lo} {m : RL14} (s : Sim g m) (o : Stp) : modelE m o = stepE g g.ep o ∧ Sim (stepG g g.ep o) (modelR m o) := by
  unfold modelE modelR stepE stepG
  rw [s.ep, s.view]
  by_cases h0 : kindN o.kind = 0
  · rw [if_pos h0, if_pos h0, if_pos h0, if_pos h0]
    exact sim_enter s o.view
  rw [if_neg h0, if_neg h0, if_neg h0, if_neg h0]
  by_cases h1 : kindN o.kind = 1
  · rw [if_pos h1, if_pos h1, if_pos h1, if_pos h1]
    exact ⟨sim_proposeE s _ _, sim_propose s _ _⟩
  rw [if_neg h1, if_neg h1, if_neg h1, if_neg h1]
  by_cases h2 : kindN o.kind = 2
  · rw [if_pos h2, if_pos h2, if_pos h2, if_pos h2]
    exact ⟨sim_prepareE s _ _ _ _ _, sim_prepare s _ _ _ _ _⟩
  rw [if_neg h2, if_neg h2, if_neg h2, if_neg h2]
  exact ⟨sim_commitE s _ _ _, sim_commit s _ _ _⟩
def Aft1 (b : Nat) (G : Nat → Prop) (g : Lo) (n0 : Nat) : World → Prop := fun w => ∃ G', LoW w b G' g ∧ (∀ k, G' k → G k ∨ n0 ≤ k)
theorem Aft1.extN {b : Nat} {G : Nat → Prop} {g : Lo} {n0 : Nat} (w w' : World) (x : Ext Non w w') (h : Aft1 b G g n0 w) : Aft1 b G g n0 w' := by
  obtain ⟨G', h1, h2⟩ := h
  exact ⟨G', h1.extN x, h2⟩
def Aft2 (b : Nat) (G : Nat → Prop) (g : Lo) (b2 : Nat) (G2 : Nat → Prop) (m : RL14) (n0 : Nat) : World → Prop := fun w => ∃ G' G2', LoW w b G' g ∧ R14W w b2 G2' m ∧ (∀ k, G' k → G k ∨ n0 ≤ k) ∧ (∀ k, G2' k → G2 k ∨ n0 ≤ k) ∧ (∀ k, LoF b G' k → ¬ LoF b2 G2' k)
theorem Aft2.extN {b : Nat} {G : Nat → Prop} {g : Lo} {b2 : Nat} {G2 : Nat → Prop} {m : RL14} {n0 : Nat} (w w' : World) (x : Ext Non w w') (h : Aft2 b G g b2 G2 m n0 w) : Aft2 b G g b2 G2 m n0 w' := by
  obtain ⟨G', G2', h1, h2, h3⟩ := h
  exact ⟨G', G2', h1.extN x, h2.extN x, h3⟩
theorem Aft1.ext2 {b : Nat} {G : Nat → Prop} {g : Lo} {b2 : Nat} {G2 : Nat → Prop} {n0 : Nat} (hd : ∀ k, LoF b G k → ¬ LoF b2 G2 k) (hn : ∀ k, LoF b2 G2 k → k < n0) (w w' : World) (x : Ext (LoF b2 G2) w w') (h : Aft1 b G g n0 w) : Aft1 b G g n0 w' := by
  obtain ⟨G', h1, h2⟩ := h
  refine ⟨G', h1.ext x (fun k q q2 => ?_), h2⟩
  rcases q with q | q
  · exact hd k (.inl q) q2
  · rcases h2 k q with q | q
    · exact hd k (.inr q) q2
    · have := hn k q2; omega
theorem Aft2.of {b : Nat} {G : Nat → Prop} {g : Lo} {b2 : Nat} {G2 G2' : Nat → Prop} {m : RL14} {n0 : Nat} (hd : ∀ k, LoF b G k → ¬ LoF b2 G2 k) (hn : ∀ k, LoF b2 G2 k → k < n0) {w w' : World} (h : Aft1 b G g n0 w) (hs : n0 ≤ w.heap.size) (x : Ext (LoF b2 G2) w w') (hm : R14W w' b2 G2' m) (h2 : ∀ k, G2' k → G2 k ∨ w.heap.size ≤ k) : Aft2 b G g b2 G2 m n0 w' := by
  have h0 := Aft1.ext2 hd hn w w' x h
  obtain ⟨G', k1, k2⟩ := h
  have ap : ∀ k, LoF b G' k → ¬ LoF b2 G2 k := fun k q q2 => by
    rcases q with q | q
    · exact hd k (.inl q) q2
    · rcases k2 k q with q | q
      · exact hd k (.inr q) q2
      · have := hn k q2; omega
  refine ⟨G', G2', k1.ext x ap, hm, k2, fun k q => (h2 k q).imp (fun z => z) (fun z => by omega), fun k q q2 => ?_⟩
  have hlt : k < w.heap.size := by
    rcases q with q | q
    · rw [q]; exact k1.bl
    · exact k1.lt k q
  rcases q2 with q2 | q2
  · exact ap k q (.inl q2)
  · rcases h2 k q2 with z | z
    · exact ap k q (.inr z)
    · omega
set_option maxHeartbeats 8000000 in
set_option maxRecDepth 100000 in
theorem walk_SlotsPlays (ep : Int) (hie : I64 ep) (a : Option Addr) (cap : Nat) (xs : List Int) (pa : Option Addr) (pcap : Nat) (l : List Stp) (w : World) (hi : Ints w a cap xs) (hs : Stps w pa pcap l) :
    Calls Try.prog 11 #[.agg #[.int .i64 ep, .slice a xs.length cap], .slice pa l.length pcap] w fun e w' => e = .returned (.bool true) ∧ Ext Non w w' := by
  have HI := Go.Lib.hid hi; have HS := Go.Lib.hid hs
  have hsm := hs.small; have hsl := hs.le
  have HE := Go.Lib.hid hie
  clear hi hs hie
  by_cases hc : confB ep xs = true
  · have HC := Go.Lib.hid hc; clear hc
    go_enter Try.func11, Try.ntmps11
    go_wp2_with fail
    have B0 := Go.Lib.hid (Bx.newAt w [.int .i64 ep, .slice a xs.length cap] 34 _ rfl)
    refine Calls.ew (law14_lives _) ?_
    rintro e x1 rfl
    have X1 : Ext Non w x1.on := by (repeat (first | with_reducible (first | exact Ext.refl _ _ | assumption | refine Ext.upN ?_ | refine Ext.alloc ?_ _ | refine Ext.drew ?_ | refine Ext.drewN ?_ _ | refine Ext.up1N (by first | omega | simp) ?_) | refine Ext.alloc ?_ _ | refine Ext.setCell ?_ (.inr (by first | omega | simp)) _))
    have B1 := Go.Lib.hid (B0.out.extN x1.ext)
    clear B0
    go_wp2_with fail
    refine (slots_New ep a cap xs HC.out _ (HI.out.extN X1)).mono ?_
    rintro e _ ⟨b, G, rfl, hL, hF, hx⟩
    obtain ⟨x2, rfl⟩ := hx.ew
    have B2 := Go.Lib.hid (B1.out.extN x2.ext)
    have HL2 := Go.Lib.hid hL
    have hlt1 := B1.out.lt
    have X2 : Ext Non w x2.on := by (repeat (first | with_reducible (first | exact Ext.refl _ _ | assumption | refine Ext.upN ?_ | refine Ext.alloc ?_ _ | refine Ext.drew ?_ | refine Ext.drewN ?_ _ | refine Ext.up1N (by first | omega | simp) ?_) | refine Ext.alloc ?_ _ | refine Ext.setCell ?_ (.inr (by first | omega | simp)) _))
    have HF2 : Hid (∀ j, LoF b G j → w.heap.size < j) := Go.Lib.hid (fun j hj => by have := hF j hj; omega)
    clear hL hx B1 hF
    go_wp2_with fail
    refine (ref14_New ep a cap xs HC.out _ (HI.out.extN X2)).mono ?_
    rintro e _ ⟨b2, G2, rfl, hM, hF, hx⟩
    obtain ⟨x3, rfl⟩ := hx.ew
    have B3 := Go.Lib.hid (B2.out.extN x3.ext)
    have hlt2 := B2.out.lt
    have HL3 := Go.Lib.hid (HL2.out.extN x3.ext)
    have HM3 := Go.Lib.hid hM
    have X3 : Ext Non w x3.on := by (repeat (first | with_reducible (first | exact Ext.refl _ _ | assumption | refine Ext.upN ?_ | refine Ext.alloc ?_ _ | refine Ext.drew ?_ | refine Ext.drewN ?_ _ | refine Ext.up1N (by first | omega | simp) ?_) | refine Ext.alloc ?_ _ | refine Ext.setCell ?_ (.inr (by first | omega | simp)) _))
    have HFR : Hid (∀ j, LoF b2 G2 j → w.heap.size < j) := Go.Lib.hid (fun j hj => by have := hF j hj; omega)
    have HDI : Hid (∀ j, LoF b G j → ¬ LoF b2 G2 j) := Go.Lib.hid (fun j h1 h2 => by
      have h3 := hF j h2
      rcases h1 with h1 | h1
      · have := HL2.out.bl; omega
      · have := HL2.out.lt j h1; omega)
    have hep := conf_facts HC.out
    have he0 := hep.1; have he1 := hep.2.1
    have hl10 := conf_len10 HC.out
    have hl4 := hl10.1; have hl11 := hl10.2
    clear hM hx B2 hF hep hl10 HL2
    obtain ⟨x4, hx4⟩ := X3.ew
    rw [hx4] at HL3 HM3 B3 ⊢
    clear hx4 X3 X2 X1 hlt1 hlt2 x3 x2 x1
    go_wp2_with fail
    go_loopg [9] l.length (fun n iv wr => ∃ (i : Nat) (g : Lo) (G : Nat → Prop) (m : RL14) (G2 : Nat → Prop) (z : EW Non w), i ≤ l.length ∧ n = l.length - i ∧ iv = .int .i64 i ∧ wr = z.on ∧ Hid (LoW wr b G g) ∧ Hid (R14W wr b2 G2 m) ∧ Hid (LoI g ∧ g.ep = ep ∧ g.mem = xs ∧ Sim g m) ∧ Hid (∀ j, LoF b G j → w.heap.size < j) ∧ Hid (∀ j, LoF b2 G2 j → w.heap.size < j) ∧ Hid (∀ j, LoF b G j → ¬ LoF b2 G2 j) ∧ Hid (Bx wr w.heap.size [.int .i64 ep, .slice a xs.length cap] 34))
    case atStart => exact ⟨0, newLo ep xs, G, newR ep xs, G2, x4, Nat.zero_le _, rfl, rfl, rfl, HL3, HM3, Go.Lib.hid ⟨newLo_inv HC.out, rfl, rfl, sim_new ep xs hl4⟩, HF2, HFR, HDI, B3⟩
    case round =>
      clear HL3 HM3 B3 HF2 HFR HDI
      obtain ⟨i, g, G, m, G2, z, hi, hn, rfl, rfl, HL, HM, HV, HF, HF2, HD, BC⟩ := hrel
      have HN := Go.Lib.hid hn; clear hn
      have HML : Hid (g.mem.length ≤ 10) := Go.Lib.hid (by rw [HV.out.2.2.1]; exact hl11)
      have HVW := Go.Lib.hid HL.out.vw
      have FEW := Go.Lib.hid (few_of_sim HV.out.2.2.2 HV.out.1 HVW.out HML.out)
      have HEP : Hid (0 ≤ ep ∧ ep ≤ 60) := Go.Lib.hid ⟨he0, he1⟩
      by_cases hlt : i < l.length
      · obtain ⟨pb, po, rfl, hpb, pk, pok⟩ := HS.out.at_ i hlt
        generalize stAt l i = o at *
        have HO := Go.Lib.hid pok
        obtain ⟨k0, k1, k2, k3, kc, ks, kk, key, kb, kid, kw5⟩ := o
        have q0 : w.cell? ⟨pb, po + i * 11, none⟩ = some (.int .i64 k0) := pk 0 _ rfl
        have q1 : w.cell? ⟨pb, po + i * 11 + 1, none⟩ = some (.int .i64 k1) := pk 1 _ rfl
        have q2 : w.cell? ⟨pb, po + i * 11 + 2, none⟩ = some (.int .i64 k2) := pk 2 _ rfl
        have q3 : w.cell? ⟨pb, po + i * 11 + 3, none⟩ = some (.int .i64 k3) := pk 3 _ rfl
        have q4 : w.cell? ⟨pb, po + i * 11 + 4, none⟩ = some (.int .i64 kc) := pk 4 _ rfl
        have q5 : w.cell? ⟨pb, po + i * 11 + 5, none⟩ = some (.int .i64 ks) := pk 5 _ rfl
        have q6 : w.cell? ⟨pb, po + i * 11 + 6, none⟩ = some (.int .i64 kk) := pk 6 _ rfl
        have q7 : w.cell? ⟨pb, po + i * 11 + 7, none⟩ = some (.string key) := pk 7 _ rfl
        have q8 : w.cell? ⟨pb, po + i * 11 + 8, none⟩ = some (.int .u64 kb) := pk 8 _ rfl
        have q9 : w.cell? ⟨pb, po + i * 11 + 9, none⟩ = some (.int .i64 kid) := pk 9 _ rfl
        have q10 : w.cell? ⟨pb, po + i * 11 + 10, none⟩ = some (.bool kw5) := pk 10 _ rfl
        clear pk pok
        have SS := sim_step HV.out.2.2.2 ⟨k0, k1, k2, k3, kc, ks, kk, key, kb, kid, kw5⟩
        rw [HV.out.2.1] at SS
        obtain ⟨st1, st2⟩ := step_ok HV.out.1 ep ⟨k0, k1, k2, k3, kc, ks, kk, key, kb, kid, kw5⟩
        obtain ⟨er, her⟩ : ∃ er, er = stepE g ep ⟨k0, k1, k2, k3, kc, ks, kk, key, kb, kid, kw5⟩ := ⟨_, rfl⟩
        obtain ⟨g2, hg2⟩ : ∃ g2, g2 = stepG g ep ⟨k0, k1, k2, k3, kc, ks, kk, key, kb, kid, kw5⟩ := ⟨_, rfl⟩
        obtain ⟨m2, hm2⟩ : ∃ m2, m2 = modelR m ⟨k0, k1, k2, k3, kc, ks, kk, key, kb, kid, kw5⟩ := ⟨_, rfl⟩
        have HV2 : Hid (LoI g2 ∧ g2.ep = ep ∧ g2.mem = xs ∧ Sim g2 m2) := Go.Lib.hid (by rw [hg2, hm2]; exact ⟨st1, st2.ep.trans HV.out.2.1, st2.mem.trans HV.out.2.2.1, SS.2⟩)
        have KC := Go.Lib.hid (fun w' h => law14_call b G g ep HE.out ⟨k0, k1, k2, k3, kc, ks, kk, key, kb, kid, kw5⟩ HO.out w' h)
        have KM := Go.Lib.hid (fun w' h => law14_model b2 G2 m (by rw [HV.out.2.2.2.ep, HV.out.2.1]; exact HEP.out) FEW.out.1 FEW.out.2.1 FEW.out.2.2 ⟨k0, k1, k2, k3, kc, ks, kk, key, kb, kid, kw5⟩ HO.out w' h)
        rw [SS.1] at KM
        rw [← her, ← hg2] at KC
        rw [← her, ← hm2] at KM
        have HML2 : Hid (g2.mem.length ≤ 10) := Go.Lib.hid (by rw [HV2.out.2.2.1]; exact hl11)
        have KS := Go.Lib.hid (fun w' (h : Aft2 b G g2 b2 G2 m2 z.on.heap.size w') => by
          obtain ⟨G', G2', h1, h2, _⟩ := h
          exact law14_same b G' g2 b2 G2' m2 HV2.out.2.2.2 HV2.out.1 (by rw [HV2.out.2.1]; exact HEP.out) (few_of_sim HV2.out.2.2.2 HV2.out.1 h1.vw HML2.out).1 w' h1 h2)
        clear SS st1 st2 her hg2 hm2
        have n1 : LoF b G w.heap.size = False := by simp only [eq_iff_iff, iff_false]; intro q; have := HF.out _ q; omega
        have n2 : LoF b2 G2 w.heap.size = False := by simp only [eq_iff_iff, iff_false]; intro q; have := HF2.out _ q; omega
        have n3 : LoF b G pb = False := by simp only [eq_iff_iff, iff_false]; intro q; have := HF.out _ q; omega
        have n4 : LoF b2 G2 pb = False := by simp only [eq_iff_iff, iff_false]; intro q; have := HF2.out _ q; omega
        have qc : z.on.cell? ⟨w.heap.size, 0, none⟩ = some (.int .i64 ep) := BC.out.cell rfl
        have HN2 : Hid (∀ k, LoF b2 G2 k → k < z.on.heap.size) := Go.Lib.hid (fun k q => by
          rcases q with q | q
          · rw [q]; exact HM.out.lt.1
          · exact HM.out.lt.2.1 k q)
        go_upto_region 12 with fail
        apply wp_region_wv 20 [Mo.is _, Mo.is _, Mo.is _, Mo.is _, Mo.is _, Mo.is _, Mo.is _, moSt (.int .i64 er) (Aft1 b G g2 z.on.heap.size) Aft1.extN, Mo.is _, Mo.is _, Mo.is _, Mo.is _, Mo.is _, moSt (.int .i64 er) (Aft2 b G g2 b2 G2 m2 z.on.heap.size) Aft2.extN, moSt (.bool false) (Aft2 b G g2 b2 G2 m2 z.on.heap.size) Aft2.extN, moSt (.bool false) (Aft2 b G g2 b2 G2 m2 z.on.heap.size) Aft2.extN, Mo.is _, Mo.is _, Mo.is _, Mo.is _] (LoF b G) 7 (fun w' => LoW w' b G g) (LoF b2 G2) 13 (fun w' => R14W w' b2 G2 m) (by kernel_rfl) (by kernel_rfl) (by kernel_rfl) (by kernel_rfl) (by kernel_rfl) (by decide) (by kernel_rfl) (by decide) ?ta1 ?tb1 ?ha1 ?hb1 ?hc1 ?hd1 ?ma1 ?mb1 ?st1 ?q1
        case ta1 => exact HL.out
        case tb1 => exact HM.out
        case ha1 => exact fun _ _ x h => h.extN x
        case hb1 => exact fun _ _ x h => h.ext x (fun k p q => HD.out k p q)
        case hc1 => exact fun _ _ x h => h.extN x
        case hd1 => exact fun _ _ x h => h.ext x (fun k p q => HD.out k q p)
        case st1 =>
          refine ⟨?_, ?_, ?_, ?_, ?_, ?_, ?_, ?_, ?_, ?_, ?_, ?_, ?_, ?_, ?_, ?_, ?_, ?_, ?_, ?_, trivial⟩
          · refine .inl ⟨by decide, by decide, ?_⟩
            intro a' w' hx hs hd
            obtain ⟨y, rfl⟩ := hx.ew
            have e5 : a'.tmps[5]?.getD undef = _ := hs 5 rfl
            simp only [List.getElem?_toArray, List.getElem?_cons_succ, List.getElem?_cons_zero, Option.getD_some, Array.getElem?_eq_some_iff] at e5
            refine .inl ⟨rfl, ?_⟩
            clear hs hd hx
            go_simp
            exact ⟨Ext.refl _ _, rfl⟩
          · refine .inl ⟨by decide, by decide, ?_⟩
            intro a' w' hx hs hd
            obtain ⟨y, rfl⟩ := hx.ew
            have e2 : a'.tmps[2]?.getD undef = _ := hs 2 rfl
            simp only [List.getElem?_toArray, List.getElem?_cons_succ, List.getElem?_cons_zero, Option.getD_some, Array.getElem?_eq_some_iff] at e2
            refine .inl ⟨rfl, ?_⟩
            clear hs hd hx
            go_simp
            exact ⟨Ext.refl _ _, rfl⟩
          · refine .inl ⟨by decide, by decide, ?_⟩
            intro a' w' hx hs hd
            obtain ⟨y, rfl⟩ := hx.ew
            have e41 : a'.tmps[41]?.getD undef = _ := hd 1 41 rfl rfl
            refine .inl ⟨rfl, ?_⟩
            clear hs hd hx
            go_simp
            exact ⟨Ext.refl _ _, rfl⟩
          · refine .inl ⟨by decide, by decide, ?_⟩
            intro a' w' hx hs hd
            obtain ⟨y, rfl⟩ := hx.ew
            have e1 : a'.tmps[1]?.getD undef = _ := hs 1 rfl
            simp only [List.getElem?_toArray, List.getElem?_cons_succ, List.getElem?_cons_zero, Option.getD_some, Array.getElem?_eq_some_iff] at e1
            refine .inl ⟨rfl, ?_⟩
            clear hs hd hx
            go_simp
            exact ⟨Ext.refl _ _, rfl⟩
          · refine .inl ⟨by decide, by decide, ?_⟩
            intro a' w' hx hs hd
            obtain ⟨y, rfl⟩ := hx.ew
            have e9 : a'.tmps[9]?.getD undef = _ := hs 9 rfl
            simp only [List.getElem?_toArray, List.getElem?_cons_succ, List.getElem?_cons_zero, Option.getD_some, Array.getElem?_eq_some_iff] at e9
            refine .inl ⟨rfl, ?_⟩
            clear hs hd hx
            go_simp
            exact ⟨Ext.refl _ _, rfl⟩
          · refine .inl ⟨by decide, by decide, ?_⟩
            intro a' w' hx hs hd
            obtain ⟨y, rfl⟩ := hx.ew
            have e43 : a'.tmps[43]?.getD undef = _ := hd 3 43 rfl rfl
            have e44 : a'.tmps[44]?.getD undef = _ := hd 4 44 rfl rfl
            refine .inl ⟨rfl, ?_⟩
            clear hs hd hx
            go_simp
            exact ⟨Ext.refl _ _, rfl⟩
          · refine .inl ⟨by decide, by decide, ?_⟩
            intro a' w' hx hs hd
            obtain ⟨y, rfl⟩ := hx.ew
            have e45 : a'.tmps[45]?.getD undef = _ := hd 5 45 rfl rfl
            refine .inl ⟨rfl, ?_⟩
            clear hs hd hx
            go_simp
            exact ⟨Ext.refl _ _, rfl⟩
          · refine .inr (.inl ⟨rfl, ?_⟩)
            intro a' w' hx hst hs hd
            obtain ⟨y, rfl⟩ := hx.ew
            have e40 : a'.tmps[40]?.getD undef = _ := hd 0 40 rfl rfl
            have e42 : a'.tmps[42]?.getD undef = _ := hd 2 42 rfl rfl
            have e46 : a'.tmps[46]?.getD undef = _ := hd 6 46 rfl rfl
            refine ⟨rfl, ?_⟩
            clear hs hd hx
            go_simp
            exact (KC.out _ hst).mono (fun e w'' ⟨he, G', h1, h2, hx⟩ => ⟨_, he, hx, rfl, G', h1, fun k q => (h2 k q).imp (fun z => z) (fun z => Nat.le_trans y.ext.size z)⟩)
          · refine .inl ⟨by decide, by decide, ?_⟩
            intro a' w' hx hs hd
            obtain ⟨y, rfl⟩ := hx.ew
            have e7 : a'.tmps[7]?.getD undef = _ := hs 7 rfl
            simp only [List.getElem?_toArray, List.getElem?_cons_succ, List.getElem?_cons_zero, Option.getD_some, Array.getElem?_eq_some_iff] at e7
            refine .inl ⟨rfl, ?_⟩
            clear hs hd hx
            go_simp
            exact ⟨Ext.refl _ _, rfl⟩
          · refine .inl ⟨by decide, by decide, ?_⟩
            intro a' w' hx hs hd
            obtain ⟨y, rfl⟩ := hx.ew
            have e1 : a'.tmps[1]?.getD undef = _ := hs 1 rfl
            simp only [List.getElem?_toArray, List.getElem?_cons_succ, List.getElem?_cons_zero, Option.getD_some, Array.getElem?_eq_some_iff] at e1
            refine .inl ⟨rfl, ?_⟩
            clear hs hd hx
            go_simp
            exact ⟨Ext.refl _ _, rfl⟩
          · refine .inl ⟨by decide, by decide, ?_⟩
            intro a' w' hx hs hd
            obtain ⟨y, rfl⟩ := hx.ew
            have e9 : a'.tmps[9]?.getD undef = _ := hs 9 rfl
            simp only [List.getElem?_toArray, List.getElem?_cons_succ, List.getElem?_cons_zero, Option.getD_some, Array.getElem?_eq_some_iff] at e9
            refine .inl ⟨rfl, ?_⟩
            clear hs hd hx
            go_simp
            exact ⟨Ext.refl _ _, rfl⟩
          · refine .inl ⟨by decide, by decide, ?_⟩
            intro a' w' hx hs hd
            obtain ⟨y, rfl⟩ := hx.ew
            have e49 : a'.tmps[49]?.getD undef = _ := hd 9 49 rfl rfl
            have e50 : a'.tmps[50]?.getD undef = _ := hd 10 50 rfl rfl
            refine .inl ⟨rfl, ?_⟩
            clear hs hd hx
            go_simp
            exact ⟨Ext.refl _ _, rfl⟩
          · refine .inl ⟨by decide, by decide, ?_⟩
            intro a' w' hx hs hd
            obtain ⟨y, rfl⟩ := hx.ew
            have e51 : a'.tmps[51]?.getD undef = _ := hd 11 51 rfl rfl
            refine .inl ⟨rfl, ?_⟩
            clear hs hd hx
            go_simp
            exact ⟨Ext.refl _ _, rfl⟩
          · refine .inr (.inr ⟨rfl, ?_⟩)
            intro a' w' hx hst hs hd
            obtain ⟨y, rfl⟩ := hx.ew
            have e48 : a'.tmps[48]?.getD undef = _ := hd 8 48 rfl rfl
            have e52 : a'.tmps[52]?.getD undef = _ := hd 12 52 rfl rfl
            obtain ⟨ex7, hp7⟩ : a'.tmps[47]?.getD undef = .int .i64 er ∧ Aft1 b G g2 z.on.heap.size y.on := hd 7 47 rfl rfl
            refine ⟨rfl, ?_⟩
            clear hs hd hx
            go_simp
            exact (KM.out _ hst).mono (fun e w'' ⟨he, G2', h1, h2, hx⟩ => ⟨_, he, hx, rfl, Aft2.of HD.out HN2.out hp7 y.ext.size hx h1 h2⟩)
          · refine .inl ⟨by decide, by decide, ?_⟩
            intro a' w' hx hs hd
            obtain ⟨y, rfl⟩ := hx.ew
            obtain ⟨e47, hp7⟩ : a'.tmps[47]?.getD undef = .int .i64 er ∧ Aft1 b G g2 z.on.heap.size y.on := hd 7 47 rfl rfl
            obtain ⟨e53, hp13⟩ : a'.tmps[53]?.getD undef = .int .i64 er ∧ Aft2 b G g2 b2 G2 m2 z.on.heap.size y.on := hd 13 53 rfl rfl
            refine .inl ⟨rfl, ?_⟩
            clear hs hd hx
            go_simp
            exact ⟨Ext.refl _ _, by simp, hp13⟩
          · refine .inl ⟨by decide, by decide, ?_⟩
            intro a' w' hx hs hd
            obtain ⟨y, rfl⟩ := hx.ew
            obtain ⟨e54, hp14⟩ : a'.tmps[54]?.getD undef = .bool false ∧ Aft2 b G g2 b2 G2 m2 z.on.heap.size y.on := hd 14 54 rfl rfl
            refine .inl ⟨rfl, ?_⟩
            clear hs hd hx
            go_simp
            exact ⟨Ext.refl _ _, rfl, hp14⟩
          · refine .inl ⟨by decide, by decide, ?_⟩
            intro a' w' hx hs hd
            obtain ⟨y, rfl⟩ := hx.ew
            have e5 : a'.tmps[5]?.getD undef = _ := hs 5 rfl
            simp only [List.getElem?_toArray, List.getElem?_cons_succ, List.getElem?_cons_zero, Option.getD_some, Array.getElem?_eq_some_iff] at e5
            obtain ⟨eg, hp15⟩ : a'.tmps[55]?.getD undef = .bool false ∧ Aft2 b G g2 b2 G2 m2 z.on.heap.size y.on := hd 15 55 rfl rfl
            refine .inl ⟨wanted_of (j := 15) (d := 55) rfl rfl eg, ?_⟩
            clear hs hd hx
            go_simp
            exact ⟨Ext.refl _ _, rfl⟩
          · refine .inl ⟨by decide, by decide, ?_⟩
            intro a' w' hx hs hd
            obtain ⟨y, rfl⟩ := hx.ew
            have e7 : a'.tmps[7]?.getD undef = _ := hs 7 rfl
            simp only [List.getElem?_toArray, List.getElem?_cons_succ, List.getElem?_cons_zero, Option.getD_some, Array.getElem?_eq_some_iff] at e7
            obtain ⟨eg, hp15⟩ : a'.tmps[55]?.getD undef = .bool false ∧ Aft2 b G g2 b2 G2 m2 z.on.heap.size y.on := hd 15 55 rfl rfl
            refine .inl ⟨wanted_of (j := 15) (d := 55) rfl rfl eg, ?_⟩
            clear hs hd hx
            go_simp
            exact ⟨Ext.refl _ _, rfl⟩
          · refine .inl ⟨by decide, by decide, ?_⟩
            intro a' w' hx hs hd
            obtain ⟨y, rfl⟩ := hx.ew
            have e56 : a'.tmps[56]?.getD undef = _ := hd 16 56 rfl rfl
            have e57 : a'.tmps[57]?.getD undef = _ := hd 17 57 rfl rfl
            obtain ⟨eg, hp15⟩ : a'.tmps[55]?.getD undef = .bool false ∧ Aft2 b G g2 b2 G2 m2 z.on.heap.size y.on := hd 15 55 rfl rfl
            refine .inl ⟨wanted_of (j := 15) (d := 55) rfl rfl eg, ?_⟩
            clear hs hd hx
            go_simp
            exact (KS.out _ hp15).mono (fun e w'' ⟨he, hx⟩ => ⟨_, he, hx, rfl⟩)
          · refine .inl ⟨by decide, by decide, ?_⟩
            intro a' w' hx hs hd
            obtain ⟨y, rfl⟩ := hx.ew
            have e58 : a'.tmps[58]?.getD undef = _ := hd 18 58 rfl rfl
            obtain ⟨eg, hp15⟩ : a'.tmps[55]?.getD undef = .bool false ∧ Aft2 b G g2 b2 G2 m2 z.on.heap.size y.on := hd 15 55 rfl rfl
            refine .inl ⟨wanted_of (j := 15) (d := 55) rfl rfl eg, ?_⟩
            clear hs hd hx
            go_simp
            exact ⟨Ext.refl _ _, rfl⟩
        case ma1 => exact ⟨.inr (.inr (Mo.is_still _ _)), .inr (.inr (Mo.is_still _ _)), .inr (.inr (Mo.is_still _ _)), .inr (.inr (Mo.is_still _ _)), .inr (.inr (Mo.is_still _ _)), .inr (.inr (Mo.is_still _ _)), .inr (.inr (Mo.is_still _ _)), .inl rfl, .inr (.inr (Mo.is_still _ _)), .inr (.inr (Mo.is_still _ _)), .inr (.inr (Mo.is_still _ _)), .inr (.inr (Mo.is_still _ _)), .inr (.inr (Mo.is_still _ _)), .inr (.inl (by kernel_rfl)), .inr (.inl (by kernel_rfl)), .inr (.inl (by kernel_rfl)), .inr (.inr (Mo.is_still _ _)), .inr (.inr (Mo.is_still _ _)), .inr (.inr (Mo.is_still _ _)), .inr (.inr (Mo.is_still _ _)), trivial⟩
        case mb1 => exact ⟨.inr (.inr (Mo.is_still _ _)), .inr (.inr (Mo.is_still _ _)), .inr (.inr (Mo.is_still _ _)), .inr (.inr (Mo.is_still _ _)), .inr (.inr (Mo.is_still _ _)), .inr (.inr (Mo.is_still _ _)), .inr (.inr (Mo.is_still _ _)), .inr (.inr (moSt_still (Aft1.ext2 HD.out HN2.out))), .inr (.inr (Mo.is_still _ _)), .inr (.inr (Mo.is_still _ _)), .inr (.inr (Mo.is_still _ _)), .inr (.inr (Mo.is_still _ _)), .inr (.inr (Mo.is_still _ _)), .inl rfl, .inr (.inl (by kernel_rfl)), .inr (.inl (by kernel_rfl)), .inr (.inr (Mo.is_still _ _)), .inr (.inr (Mo.is_still _ _)), .inr (.inr (Mo.is_still _ _)), .inr (.inr (Mo.is_still _ _)), trivial⟩
        case' q1 =>
          intro vs w' hx hRR
          obtain ⟨xq, rfl⟩ := hx.ew
          have q0 : vs 0 = _ := hRR 0 (by decide)
          have q1 : vs 1 = _ := hRR 1 (by decide)
          have q2 : vs 2 = _ := hRR 2 (by decide)
          have q3 : vs 3 = _ := hRR 3 (by decide)
          have q4 : vs 4 = _ := hRR 4 (by decide)
          have q5 : vs 5 = _ := hRR 5 (by decide)
          have q6 : vs 6 = _ := hRR 6 (by decide)
          obtain ⟨q7, hp7⟩ : vs 7 = .int .i64 er ∧ Aft1 b G g2 z.on.heap.size xq.on := hRR 7 (by decide)
          have q8 : vs 8 = _ := hRR 8 (by decide)
          have q9 : vs 9 = _ := hRR 9 (by decide)
          have q10 : vs 10 = _ := hRR 10 (by decide)
          have q11 : vs 11 = _ := hRR 11 (by decide)
          have q12 : vs 12 = _ := hRR 12 (by decide)
          obtain ⟨q13, hp13⟩ : vs 13 = .int .i64 er ∧ Aft2 b G g2 b2 G2 m2 z.on.heap.size xq.on := hRR 13 (by decide)
          obtain ⟨q14, hp14⟩ : vs 14 = .bool false ∧ Aft2 b G g2 b2 G2 m2 z.on.heap.size xq.on := hRR 14 (by decide)
          obtain ⟨q15, hp15⟩ : vs 15 = .bool false ∧ Aft2 b G g2 b2 G2 m2 z.on.heap.size xq.on := hRR 15 (by decide)
          have q16 : vs 16 = _ := hRR 16 (by decide)
          have q17 : vs 17 = _ := hRR 17 (by decide)
          have q18 : vs 18 = _ := hRR 18 (by decide)
          have q19 : vs 19 = _ := hRR 19 (by decide)
          clear hRR hx
          simp only [putAll, List.take_succ_cons, List.take_zero, List.drop_succ_cons, List.drop_zero, Act.put, List.setIfInBounds_toArray, List.set_cons_zero, List.set_cons_succ, Nat.reduceAdd, Nat.zero_add]
          simp only [q0, q1, q2, q3, q4, q5, q6, q7, q8, q9, q10, q11, q12, q13, q14, q15, q16, q17, q18, q19]
          clear q0 q1 q2 q3 q4 q5 q6 q7 q8 q9 q10 q11 q12 q13 q14 q15 q16 q17 q18 q19 vs
        have HA := Go.Lib.hid hp15
        clear hp7 hp13 hp14 hp15
        obtain ⟨G', G2', h1, h2, h3, h4, h5⟩ := HA.out
        have HL9 := Go.Lib.hid h1
        have HM9 := Go.Lib.hid h2
        have HD9 := Go.Lib.hid h5
        have hzw : w.heap.size < z.on.heap.size := BC.out.lt
        have HF9 : Hid (∀ j, LoF b G' j → w.heap.size < j) := Go.Lib.hid (fun j hj => by
          rcases hj with hj | hj
          · exact HF.out _ (.inl hj)
          · rcases h3 j hj with q | q
            · exact HF.out _ (.inr q)
            · omega)
        have HG9 : Hid (∀ j, LoF b2 G2' j → w.heap.size < j) := Go.Lib.hid (fun j hj => by
          rcases hj with hj | hj
          · exact HF2.out _ (.inl hj)
          · rcases h4 j hj with q | q
            · exact HF2.out _ (.inr q)
            · omega)
        have BC9 := Go.Lib.hid (BC.out.ext xq.ext (fun q => by
          rcases q with q | q
          · rw [n1] at q; exact q
          · rw [n2] at q; exact q))
        have X9 : Ext Non w xq.on := z.ext.step xq.ext (fun k hk q => by
          rcases q with q | q
          · have := HF.out k q; omega
          · have := HF2.out k q; omega)
        clear HA h1 h2 h3 h4 h5
        obtain ⟨x9, hx9⟩ := X9.ew
        rw [hx9] at HL9 HM9 BC9 ⊢
        clear hx9 X9 n1 n2 n3 n4 qc q0 q1 q2 q3 q4 q5 q6 q7 q8 q9 q10
        go_wp2_with fail
        go_roundg (l.length - (i + 1))
        case measure => have := HN.out; omega
        case rel => exact ⟨i + 1, g2, G', m2, G2', x9, hlt, rfl, by go_num, rfl, HL9, HM9, HV2, HF9, HG9, HD9, BC9⟩
      · have KS := Go.Lib.hid (law14_same b G g b2 G2 m HV.out.2.2.2 HV.out.1 (by rw [HV.out.2.1]; exact HEP.out) FEW.out.1 z.on HL.out HM.out)
        go_wp2_with fail
        refine Calls.ew KS.out ?_
        rintro e x5 rfl
        go_wp2
        go_ret
        exact ⟨rfl, by (repeat (first | with_reducible (first | exact Ext.refl _ _ | assumption | refine Ext.upN ?_ | refine Ext.alloc ?_ _ | refine Ext.drew ?_ | refine Ext.drewN ?_ _ | refine Ext.up1N (by first | omega | simp) ?_) | refine Ext.alloc ?_ _ | refine Ext.setCell ?_ (.inr (by first | omega | simp)) _))⟩
  · have HC := Go.Lib.hid (show confB ep xs = false by simpa using hc); clear hc
    go_enter Try.func11, Try.ntmps11
    go_wp2_with fail
    refine Calls.ew (law14_lives _) ?_
    rintro e x1 rfl
    go_wp2_with fail
    refine Calls.ew (slots_New_no ep a cap xs HC.out _ (HI.out.extN (by (repeat (first | with_reducible (first | exact Ext.refl _ _ | assumption | refine Ext.upN ?_ | refine Ext.alloc ?_ _ | refine Ext.drew ?_ | refine Ext.drewN ?_ _ | refine Ext.up1N (by first | omega | simp) ?_) | refine Ext.alloc ?_ _ | refine Ext.setCell ?_ (.inr (by first | omega | simp)) _))))) ?_
    rintro e x2 rfl
    go_wp2_with fail
    refine Calls.ew (ref14_New_no ep a cap xs HC.out _ (HI.out.extN (by (repeat (first | with_reducible (first | exact Ext.refl _ _ | assumption | refine Ext.upN ?_ | refine Ext.alloc ?_ _ | refine Ext.drew ?_ | refine Ext.drewN ?_ _ | refine Ext.up1N (by first | omega | simp) ?_) | refine Ext.alloc ?_ _ | refine Ext.setCell ?_ (.inr (by first | omega | simp)) _))))) ?_
    rintro e x3 rfl
    go_wp2
    go_ret
    exact ⟨rfl, by (repeat (first | with_reducible (first | exact Ext.refl _ _ | assumption | refine Ext.upN ?_ | refine Ext.alloc ?_ _ | refine Ext.drew ?_ | refine Ext.drewN ?_ _ | refine Ext.up1N (by first | omega | simp) ?_) | refine Ext.alloc ?_ _ | refine Ext.setCell ?_ (.inr (by first | omega | simp)) _))⟩
set_option maxRecDepth 100000 in
open Go.ChangeShapes Go.WideShapes in
theorem law_SlotsPlays {H : Type} {enc : TypeId × Value → H} (W : World) {base : Nat} (v0 : Value) (d0 : DataW H) (p0 : List MemPlace) (v1 : Value) (d1 : DataW H) (p1 : List MemPlace)
    (h0 : DataW.Trod enc Try.prog W 0 (fun _ => true) true 34 v0 d0 p0) (ok0 : Value.okWide Try.prog W .any base 34 v0)
    (h1 : DataW.Trod enc Try.prog W 0 (fun _ => true) true 69 v1 d1 p1) (ok1 : Value.okWide Try.prog W .any base 69 v1) :
    Calls Try.prog 11 #[v0, v1] W fun e w' => e = .returned (.bool true) ∧ Below W.heap.size W w' := by
  obtain ⟨ep, a, cap, xs, rfl, hep, hi, _⟩ := arg_conf ok0 h0
  obtain ⟨pa, pcap, l, rfl, hs⟩ := arg_ops14 ok1 h1
  exact (walk_SlotsPlays ep hep a cap xs pa pcap l W hi hs).mono fun _ _ ⟨a, b⟩ => ⟨a, b.toBelow⟩
end Go.Proofs.Ytakbkpklfihfiaa
