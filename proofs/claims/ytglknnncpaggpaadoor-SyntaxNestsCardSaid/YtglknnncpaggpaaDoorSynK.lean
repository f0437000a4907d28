/- Parse. -/
import Derived.Test.YtglknnncpaggpaaDoorSynJ
import Derived.RegionTactic
import Derived.Deep.RegionHeld3
namespace Go.Proofs.YtglknnncpaggpaaDoor
open Go.RowKit

/-- The results of Parse, read from its two variables. -/
theorem parse_results (tmps : Array Value) (bg : Nat) (h2 : tmps[2]? = some (.pointer (some ⟨bg, 0, none⟩))) (h3 : tmps[3]? = some (.pointer (some ⟨bg + 1, 0, none⟩))) (W : World) (v u : Value)
    (cg : W.cell? ⟨bg, 0, none⟩ = some v) (ce : W.cell? ⟨bg + 1, 0, none⟩ = some u) : (results Tryd.f12 tmps).run Tryd.prog W = .ok (.tuple #[.agg #[v], u]) W := by
  simp [results, Tryd.results12, h2, h3, go_sem, cg, ce]
/-- A fault that is thrown goes through the door. -/
theorem door_fault (bg p : Nat) (tmps : Array Value) (h2 : tmps[2]? = some (.pointer (some ⟨bg, 0, none⟩))) (h3 : tmps[3]? = some (.pointer (some ⟨bg + 1, 0, none⟩))) (w W : World) (lv : Value) (c a : Nat) (S : List Nat)
    (BG : Blk W bg #[lv] 25) (BE : Blk W (bg + 1) #[.nilIface] 27) (BP : Blk W p #[.int .i64 c, .int .i64 a] 76) (F : Fr S w W) (hS : ∀ b ∈ S, w.heap.size ≤ b) (hbg : w.heap.size ≤ bg) (hp : w.heap.size ≤ p) (hpb : bg + 1 < p) :
    bodyPostD Tryd.prog Tryd.f12 (GParsePost (.err c a) w) (Exit.panic [{ v := .iface 62 (.pointer (some ⟨p, 0, none⟩)), recovered := false }])
      { tmps := tmps, defers := [{ target := .fn (.func 22) #[.pointer (some ⟨bg, 0, none⟩), .pointer (some ⟨bg + 1, 0, none⟩)], args := #[] }] } W := by
  refine leaves_cons (f := 22) (args := #[.pointer (some ⟨bg, 0, none⟩), .pointer (some ⟨bg + 1, 0, none⟩)]) (by simp) (by simp [go_sem]) ?_
  refine (catch_fault bg (bg + 1) p lv .nilIface [] W (BG.cell 0 rfl) (BE.cell 0 rfl) (BG.free 0) (BE.free 0) (by omega)).mono ?_
  rintro e u' w'' ⟨rfl, rfl, rfl⟩
  have hne : bg ≠ bg + 1 := by omega
  have BG2 : Blk _ bg #[.slice none 0 0] _ := (BG.set 0 (.slice none 0 0)).set_other (p := ⟨bg + 1, 0, none⟩) hne (.iface 62 (.pointer (some ⟨p, 0, none⟩)))
  have BE2 : Blk _ (bg + 1) #[.iface 62 (.pointer (some ⟨p, 0, none⟩))] _ := (BE.set_other (p := ⟨bg, 0, none⟩) (Ne.symm hne) (.slice none 0 0)).set 0 (.iface 62 (.pointer (some ⟨p, 0, none⟩)))
  have BP2 := (BP.set_other (p := ⟨bg, 0, none⟩) (by show p ≠ bg; omega) (.slice none 0 0)).set_other (p := ⟨bg + 1, 0, none⟩) (by show p ≠ bg + 1; omega) (.iface 62 (.pointer (some ⟨p, 0, none⟩)))
  refine ⟨_, parse_results tmps bg h2 h3 _ _ _ (BG2.cell 0 rfl) (BE2.cell 0 rfl), ?_, ?_⟩
  · refine Fr.setCell (Fr.setCell (F.mono (T := []) (fun i hi => .inr (hS i hi))) ?_ _) ?_ _
    · exact .inr hbg
    · exact .inr (by show w.heap.size ≤ bg + 1; omega)
  · exact ⟨_, rfl, p, rfl, hp, BP2⟩

/-- What a rule that was read leaves. -/
def RuleIn (br g bg B : Nat) (w4 : World) (rs : List Rule) (l : List Tok) (w' : World) : Prop :=
  ∃ lv, Rdr w' br g l 0 ∧ Blk w' bg #[lv] 25 ∧ Blk w' (bg + 1) #[.nilIface] 27 ∧ GramV w' B lv rs ∧ FrB B [br, bg] w4 w'
theorem rule_done {br g bg B gg cap : Nat} {w4 w10 w11 w12 : World} {acc : List Rule} {l4 : List Tok} {lv : Value} {xs cs : List Value} {t : Tree} {nm : List UInt8} {ap : Nat} {o : Obj}
    (hBM : B ≤ w10.heap.size) (hbgr : bg ≠ br) (hber : bg + 1 ≠ br) (hgbg : g ≠ bg) (hbrB : br < B) (hgB : g < B) (hbgB : bg + 1 < B)
    (hownM : ∀ k, lv.ownBlock = some k → B ≤ k ∧ k < w10.heap.size)
    (GR : RulesAt w10 (fun b => B ≤ b ∧ lv.ownBlock ≠ some b) acc xs) (hxs : xs.length = acc.length * 10) (F11 : Fr [br] w10 w11) (N : NodeAt w11 (fun b => w10.heap.size ≤ b) t cs)
    (BG : Blk w10 bg #[lv] 25) (BE : Blk w10 (bg + 1) #[.nilIface] 27) (H11 : Rdr w11 br g l4 0) (FB : FrB B [br, bg] w4 w10)
    (hown2 : w12.ownsRow B 45 10 (.slice (some ⟨gg, 0, none⟩) (acc.length + 1) cap) (acc.length + 1) (xs ++ .string ⟨nm.toArray⟩ :: (cs ++ [.int .i64 ap])))
    (hgrow : (w11.alloc o).grownBy w12 lv.ownBlock) (hat : lv.ownBlock = some gg ∨ gg = w11.heap.size + 1) :
    RuleIn br g bg B w4 (acc ++ [⟨nm, t, ap⟩]) l4 (w12.setCell ⟨bg, 0, none⟩ (.slice (some ⟨gg, 0, none⟩) (acc.length + 1) cap)) := by
  have GR11 := GR.fr F11 (fun b hb h => by have : b = br := by simpa using hb
                                           omega)
  have RN : RuleAt w11 (fun b => w10.heap.size ≤ b) ⟨nm, t, ap⟩ (.string ⟨nm.toArray⟩ :: (cs ++ [.int .i64 ap])) := ⟨cs, rfl, N⟩
  obtain ⟨FX, GX⟩ := gramV_done rfl hBM hownM GR11 hxs RN hown2 hgrow hat
  have FS : Fr [bg] w12 (w12.setCell ⟨bg, 0, none⟩ (.slice (some ⟨gg, 0, none⟩) (acc.length + 1) cap)) := (Fr.refl _ w12).setCell (p := ⟨bg, 0, none⟩) (.inl (by simp)) _
  have BG2 := (BG.fr F11 (by simpa using hbgr)).frB FX (by omega) (by simp)
  have BE2 := ((BE.fr F11 (by simpa using hber)).frB FX hbgB (by simp)).fr FS (by simp)
  have F12 : FrB B [br, bg] w4 w12 := (FB.trans (F11.toB' (T := [br, bg]) B (by simp))).trans ⟨FX.os, FX.tape, FX.output, FX.size, fun i h1 h2 _ => FX.block i h1 h2 (by simp)⟩
  exact ⟨_, (H11.frB FX hbrB hgB (by simp) (by simp)).fr FS (by simpa using Ne.symm hbgr) (by simpa using hgbg), BG2.set 0 _, BE2, GX.fr FS (by simp; omega), F12.trans (FS.toB' (T := [br, bg]) B (by simp))⟩

/-- The door's deferred closure. -/
def door (bg : Nat) : List Deferred := [{ target := .fn (.func 22) #[.pointer (some ⟨bg, 0, none⟩), .pointer (some ⟨bg + 1, 0, none⟩)], args := #[] }]
/-- A statement that panics: the frame's two slots and the door are as they were. -/
def stopQ (bg : Nat) (T : List PanicEntry → World → Prop) : Exit → Act → World → Prop
  | .panic c, a, w => a.tmps[2]? = some (.pointer (some ⟨bg, 0, none⟩)) ∧ a.tmps[3]? = some (.pointer (some ⟨bg + 1, 0, none⟩)) ∧ a.defers = door bg ∧ T c w
  | _, _, _ => False
theorem stopQ_put {bg : Nat} {T : List PanicEntry → World → Prop} {c : List PanicEntry} {a : Act} {w : World} {v : Value} (d : Nat) (h2 : d ≠ 2) (h3 : d ≠ 3) (h : stopQ bg T (.panic c) (a.put (some d) v) w) : stopQ bg T (.panic c) a w := by
  obtain ⟨h4, h5, h6, h7⟩ := h
  refine ⟨?_, ?_, h6, h7⟩
  · simpa [Act.put, Array.getElem?_setIfInBounds, h2] using h4
  · simpa [Act.put, Array.getElem?_setIfInBounds, h3] using h5
/-- What a stop of choice leaves. -/
def StopOut (S : List Nat) (w : World) (bg c a : Nat) (ch : List PanicEntry) (W : World) : Prop :=
  ∃ p lv, ch = [{ v := .iface 62 (.pointer (some ⟨p, 0, none⟩)), recovered := false }] ∧ Blk W bg #[lv] 25 ∧ Blk W (bg + 1) #[.nilIface] 27 ∧ Blk W p #[.int .i64 c, .int .i64 a] 76 ∧ Fr S w W ∧ w.heap.size ≤ p ∧ bg + 1 < p
theorem stopQ_door {bg c a : Nat} {S : List Nat} {w : World} (hS : ∀ b ∈ S, w.heap.size ≤ b) (hbg : w.heap.size ≤ bg) : ∀ (e : Exit) (A : Act) (W : World), stopQ bg (StopOut S w bg c a) e A W →
    bodyPostD Tryd.prog Tryd.f12 (GParsePost (.err c a) w) e A W ∧ ∃ ch, e = .panic ch := by
  intro e A W h
  match e, h with
  | .panic ch, ⟨h2, h3, h4, p, lv, h5, h6, h7, h8, h9, h10, h11⟩ =>
    obtain ⟨tm, df⟩ := A
    have h4' : df = door bg := h4
    subst h4'
    subst h5
    exact ⟨door_fault bg p tm h2 h3 w W lv c a S h6 h7 h8 h9 hS hbg h10 h11, _, rfl⟩

/-- A statement that does not panic: of the frame, and of the world. -/
def Once (F : Act → Prop) (T : World → Prop) : Exit → Act → World → Prop
  | .normal, A, W => F A ∧ T W
  | _, _, _ => False
/-- The frame of Parse at a round's end. -/
def AtEnd (s : ByteArray) (ts : List Tok) (gt ct bg br : Nat) (A : Act) : Prop :=
  ∃ x6 x20 x21 x22 x23 x24 x25 x26 x27 x28 x29 x30 x31 x32 x33 x34 x35 x36 x37 x38 x39 x40 x41 x42 x43 x44 x45 x46 x47 x48 x49 x50 x51 x52 x53 x54 x55 x56 x57 x58 x59 x60 x61 x62 x63 x64 x65 : Value, A = { tmps := #[.string s, undef, .pointer (some ⟨bg, 0, none⟩), .pointer (some ⟨bg + 1, 0, none⟩), .slice (some ⟨gt, 0, none⟩) ts.length ct, .pointer (some ⟨br, 0, none⟩), x6, .tuple #[.slice (some ⟨gt, 0, none⟩) ts.length ct, .nilIface], .string s, .tuple #[.slice (some ⟨gt, 0, none⟩) ts.length ct, .nilIface], .slice (some ⟨gt, 0, none⟩) ts.length ct, .nilIface, .nilIface, .bool false, undef, undef, .func (.func 22) #[] #[.pointer (some ⟨bg, 0, none⟩), .pointer (some ⟨bg + 1, 0, none⟩)], .slice (some ⟨gt, 0, none⟩) ts.length ct, .agg #[.slice (some ⟨gt, 0, none⟩) ts.length ct, .int .i64 0], .pointer (some ⟨br, 0, none⟩), x20, x21, x22, x23, x24, x25, x26, x27, x28, x29, x30, x31, x32, x33, x34, x35, x36, x37, x38, x39, x40, x41, x42, x43, x44, x45, x46, x47, x48, x49, x50, x51, x52, x53, x54, x55, x56, x57, x58, x59, x60, x61, x62, x63, x64, x65, undef], defers := door bg }
set_option maxHeartbeats 16000000 in
set_option maxRecDepth 100000 in
theorem sparse_any (s : ByteArray) (w : World) (hg : Lg w) (hs : s.size ≤ 100000000) :
    Calls Tryd.prog 12 #[.string s] w (GParsePost (parseP s.data.toList) w) := by
  have hmf : ∀ (fn : Fn) (first cap : Array Value) (w : World), (Instr.makeFunc fn first cap).run Tryd.prog w = .ok (.func fn first cap) w := fun _ _ _ _ => rfl
  go_enter_defers Tryd.func12, Tryd.ntmps12
  go_upto_region 1 with fail
  have F0 := ((Fr.refl [] w).alloc (.cells #[.slice none 0 0] 25)).alloc (.cells #[.nilIface] 27)
  have BG := (Blk.new w #[.slice none 0 0] 25).alloc (.cells #[.nilIface] 27)
  have BE := Blk.new (w.alloc (.cells #[.slice none 0 0] 25)) #[.nilIface] 27
  have hsz : ((w.alloc (.cells #[.slice none 0 0] 25)).alloc (.cells #[.nilIface] 27)).heap.size = w.heap.size + 2 := by simp
  rw [show (w.alloc (.cells #[.slice none 0 0] 25)).heap.size = w.heap.size + 1 from by simp] at BE
  obtain ⟨w1, hw1⟩ : ∃ w1, (w.alloc (.cells #[.slice none 0 0] 25)).alloc (.cells #[.nilIface] 27) = w1 := ⟨_, rfl⟩
  rw [hw1] at F0 BG BE hsz ⊢
  obtain ⟨bg, hbg⟩ : ∃ b, w.heap.size = b := ⟨_, rfl⟩
  rw [hbg] at BG BE hsz ⊢
  have G1 := hg.fr F0 (by simp)
  have hlen1 := hg.lt
  have HSZ := Lib.hid hsz
  have HBG := Lib.hid hbg
  have CT := Lib.hid (tokens_any s w1 G1 hs)
  obtain ⟨tr, htr⟩ : ∃ tr, lexAll s.data.toList = tr := ⟨_, rfl⟩
  rw [htr] at CT
  have HTR := Lib.hid htr
  have h01 : bg ≠ bg + 1 := by omega
  have h10 : bg + 1 ≠ bg := by omega
  clear hw1 hsz hbg htr hg G1
  go_wp2_with fail
  with_reducible refine CT.out.mono ?_
  rintro e w2 ⟨F2, h2⟩
  clear CT
  have BG2 := BG.fr F2 (by simp)
  have BE2 := BE.fr F2 (by simp)
  have F02 := F0.trans F2 (by simp)
  clear BG BE F0
  match tr, HTR, h2 with
  | .err code at_, HTR, ⟨v, he, HF⟩ =>
    subst he
    have HR : Hid (parseP s.data.toList = .err code at_) := Lib.hid (parseP_err HTR.out)
    obtain ⟨ab, rfl, hab, BA⟩ := HF
    have habg : bg + 1 < ab := by have := HSZ.out; omega
    have hane : ab ≠ bg + 1 := by omega
    have hane2 : ab ≠ bg := by omega
    have ce := BE2.cell 0 rfl
    have cf := BE2.free 0
    have cg := BG2.cell 0 rfl
    have cgf := BG2.free 0
    clear HTR h2
    go_wp2_with fail
    go_region
    obtain ⟨v, hv⟩ : ∃ v, Value.iface 62 (.pointer (some ⟨ab, 0, none⟩)) = v := ⟨_, rfl⟩
    have HV := Lib.hid hv
    rw [hv]
    clear hv ce cf cg cgf
    have bg1 := BG2.set_other (p := ⟨bg + 1, 0, none⟩) h01 v
    have be1 := BE2.set 0 v
    have bg2 := bg1.set 0 (.slice none 0 0)
    have be2 := be1.set_other (p := ⟨bg, 0, none⟩) h10 (.slice none 0 0)
    have bg3 : Blk _ bg #[.slice none 0 0] _ := bg2.set_other (p := ⟨bg + 1, 0, none⟩) h01 v
    have be3 : Blk _ (bg + 1) #[v] _ := be2.set 0 v
    have F3 : Fr [] w _ := (((F02.setCell (p := ⟨bg + 1, 0, none⟩) (.inr (by have := HBG.out; simp; omega)) v).setCell (p := ⟨bg, 0, none⟩) (.inr (by have := HBG.out; simp; omega)) (.slice none 0 0)).setCell (p := ⟨bg + 1, 0, none⟩) (.inr (by have := HBG.out; simp; omega)) v).drew
    have BA3 : Blk _ ab _ _ := ((BA.set_other (p := ⟨bg + 1, 0, none⟩) hane v).set_other (p := ⟨bg, 0, none⟩) hane2 (.slice none 0 0)).set_other (p := ⟨bg + 1, 0, none⟩) hane v
    have bg4 := bg3.drew
    have be4 := be3.drew
    have BA4 := BA3.drew
    clear bg1 be1 bg2 be2 bg3 be3 BA3 BA BG2 BE2
    generalize (((w2.setCell ⟨bg + 1, 0, none⟩ v).setCell ⟨bg, 0, none⟩ (.slice none 0 0)).setCell ⟨bg + 1, 0, none⟩ v).drew = W at *
    have cg := bg4.cell 0 rfl
    have ce := be4.cell 0 rfl
    go_wp2_with fail
    refine ⟨.tuple #[.agg #[.slice none 0 0], v], by simp [results, Tryd.results12, go_sem, cg, ce], F3, ?_⟩
    rw [HR.out]
    exact ⟨v, rfl, ab, HV.out.symm, by have := HBG.out; omega, BA4⟩
  | .ok ts, HTR, ⟨v, he, HT⟩ =>
    subst he
    obtain ⟨hends, hts, hsl⟩ := lexAll_ok HTR.out
    obtain ⟨r, hr⟩ : ∃ r, rulesP (fuelOf ts) [] ts = r := ⟨_, rfl⟩
    have hne : r ≠ .out := by rw [← hr]; exact fuel_ok hends
    have HR : Hid (parseP s.data.toList = gOf r) := Lib.hid (by rw [parseP_ok HTR.out, hr])
    have HR2 := Lib.hid hr
    have ce := BE2.cell 0 rfl
    have cf := BE2.free 0
    obtain ⟨gt, ct, hv, _, _⟩ := World.ownsRow.form HT hends.len
    subst hv
    clear hr HTR h2
    go_upto_region 5 with fail
    clear ce cf
    obtain ⟨w3, e3, F3, BE3, S3⟩ := set_new BE2 0 .nilIface
    rw [e3]
    have BG3 := BG2.fr F3 (by simp)
    have F03 : Fr [] w w3 := F02.trans F3 (by have := HBG.out; simp; omega)
    have HT3 : ToksAt (bg + 2) w3 (.slice (some ⟨gt, 0, none⟩) ts.length ct) ts := by
      rw [HSZ.out] at HT
      exact ownsRow.fr HT F3 (by simp)
    clear e3 BE2 BG2 F02 F3 HT S3
    go_upto_region 6 with fail
    obtain ⟨w4, br, e4, e5, F4, BR4, S4⟩ := alloc_new w3 #[.slice (some ⟨gt, 0, none⟩) ts.length ct, .int .i64 0] 65
    rw [e4, e5.out]
    have BG4 := BG3.fr F4 (by simp)
    have BE4 := BE3.fr F4 (by simp)
    have F04 := F03.trans F4 (by simp)
    have HT4 : ToksAt (bg + 2) w4 (.slice (some ⟨gt, 0, none⟩) ts.length ct) ts := ownsRow.fr HT3 F4 (by simp)
    obtain ⟨g, H4, hBg⟩ := HT4.start' hends.len BR4
    obtain ⟨B, hB⟩ : ∃ B, w4.heap.size = B := ⟨_, rfl⟩
    have HB := Lib.hid hB
    have hbrB : br < B := by have := H4.lt.1; omega
    have hgB : g < B := by have := H4.lt.2; omega
    have hbgr : bg + 1 < br := by have := e5.out; have := BE3.lt; omega
    have hgbg : bg ≠ g := by omega
    have hgbe : bg + 1 ≠ g := by omega
    have hbgr1 : bg ≠ br := by omega
    have hbgr2 : bg + 1 ≠ br := by omega
    have hwbg : w.heap.size ≤ bg := by have := HBG.out; omega
    have hber : bg + 1 < B := by omega
    clear e4 BE3 BG3 F03 F4 HT3 HT4 BR4 hB
    go_loopg [33] (fuelOf ts) (fun k _a wr => ∃ acc ll lv, Rdr wr br g ll 0 ∧ Ends ll ∧ acc.length + ll.length ≤ ts.length ∧ Blk wr bg #[lv] 25 ∧ Blk wr (bg + 1) #[.nilIface] 27 ∧ GramV wr B lv acc ∧ FrB B [br, bg] w4 wr ∧ rulesP k acc ll = r)
    case atStart => exact ⟨[], ts, _, H4, hends, by simp, BG4, BE4, GramV.nil _ _, FrB.refl _ _ _, HR2.out⟩
    case round =>
      obtain ⟨acc, ll, lv, H6, hll, hlen6, BG6, BE6, G6, FB6, hr6⟩ := hrel
      clear H4 BG4 BE4 HR2
      obtain ⟨k, rfl⟩ : ∃ k, gk = k + 1 := by
        cases gk with
        | zero => simp only [rulesP] at hr6; exact absurd hr6.symm hne
        | succ k => exact ⟨k, rfl⟩
      have FW : Fr [br, bg] w wr := FB6.after F04 (by omega)
      obtain ⟨lp, lc, rfl⟩ := G6.form
      simp only [rulesP] at hr6
      have hi0 : (0 : Int) < (ll.length : Int) := by have := hll.len; omega
      have HR6 := Lib.hid hr6
      clear hr6
      obtain ⟨b33, hb33⟩ : ∃ b, decide (acc.length = 0 ∨ (hd ll).kind ≠ 6) = b := ⟨_, rfl⟩
      have HB33 := Lib.hid hb33
      clear hb33
      go_upto_region 6 with fail
      go_cut [33] from 20 to 33 (fun v wx => v = .bool b33 ∧ wr = wx)
      case first =>
        clear HR6
        obtain ⟨o, cap, HA⟩ := H6
        obtain ⟨c0, c1, c2, c3, c4, c5, c6⟩ := HA.head hll.len
        have r0 := Blk.cell HA.1 0 rfl
        have cg := BG6.cell 0 rfl
        by_cases e0 : acc.length = 0
        · have q0 : ((acc.length : Int) == 0) = true := by rw [e0]; rfl
          have HX : Hid (b33 = true) := Lib.hid (by rw [← HB33.out]; simp [e0])
          clear e0
          go_wp2_with fail
          go_meet
          case rel => exact ⟨by rw [HX.out], rfl⟩
        · have q0 : ((acc.length : Int) == 0) = false := by rw [beq_eq_false_iff_ne]; omega
          by_cases e6 : (hd ll).kind = 6
          · have q6 : (((hd ll).kind : Int) != 6) = false := by rw [e6]; rfl
            have HX : Hid (b33 = false) := Lib.hid (by rw [← HB33.out]; simp [e0, e6])
            clear e0 e6
            go_wp2_with fail
            go_meet
            case rel => exact ⟨by rw [HX.out], rfl⟩
          · have q6 : (((hd ll).kind : Int) != 6) = true := by simp; omega
            have HX : Hid (b33 = true) := Lib.hid (by rw [← HB33.out]; simp [e0, e6])
            clear e0 e6
            go_wp2_with fail
            go_meet
            case rel => exact ⟨by rw [HX.out], rfl⟩
      case rest =>
        obtain ⟨rfl, rfl⟩ := hcut
        cases b33 with
        | false =>
          have hx : ¬ (acc.length = 0 ∨ (hd ll).kind ≠ 6) := of_decide_eq_false HB33.out
          have hr7 := HR6.out
          rw [if_pos ⟨by omega, by omega⟩] at hr7
          have HR7 := Lib.hid hr7
          have cg := BG6.cell 0 rfl
          have cgf := BG6.free 0
          have ce := BE6.cell 0 rfl
          have cef := BE6.free 0
          clear hx hr7 HR6
          go_wp2_with fail
          have BG7 : Blk _ bg #[.slice lp acc.length lc] _ := (BG6.set 0 (.slice lp acc.length lc)).set_other (p := ⟨bg + 1, 0, none⟩) h01 .nilIface
          have BE7 : Blk _ (bg + 1) #[.nilIface] _ := (BE6.set_other (p := ⟨bg, 0, none⟩) h10 (.slice lp acc.length lc)).set 0 .nilIface
          have FX : Fr [bg, bg + 1] wr ((wr.setCell ⟨bg, 0, none⟩ (.slice lp acc.length lc)).setCell ⟨bg + 1, 0, none⟩ .nilIface) := ((Fr.refl _ wr).setCell (p := ⟨bg, 0, none⟩) (.inl (by simp)) _).setCell (p := ⟨bg + 1, 0, none⟩) (.inl (by simp)) _
          have G7 := G6.fr FX (by simp; omega)
          have F7 := FW.trans FX (by simp; omega)
          clear FX BG6 BE6 G6 FW FB6 H6 cg cgf ce cef
          generalize (wr.setCell ⟨bg, 0, none⟩ (.slice lp acc.length lc)).setCell ⟨bg + 1, 0, none⟩ .nilIface = W at *
          refine leaves_cons (f := 22) (args := #[.pointer (some ⟨bg, 0, none⟩), .pointer (some ⟨bg + 1, 0, none⟩)]) (by simp) (by simp [go_sem]) ?_
          refine (catch_idle bg (bg + 1) _).mono ?_
          rintro e u' w'' ⟨rfl, rfl, rfl⟩
          refine ⟨_, parse_results _ bg rfl rfl _ _ _ (BG7.cell 0 rfl) (BE7.cell 0 rfl), F7.mono (by simp; omega), ?_⟩
          rw [HR.out, ← HR7.out]
          exact ⟨_, rfl, G7.mono (by omega)⟩
        | true =>
          have hx : acc.length = 0 ∨ (hd ll).kind ≠ 6 := of_decide_eq_true HB33.out
          have hr7 := HR6.out
          rw [if_neg (by omega)] at hr7
          have HR7 := Lib.hid hr7
          clear hx hr7 HR6
          go_upto_region 7 with fail
          obtain ⟨b47, hb47⟩ : ∃ b, decide (acc.length = 64 ∧ (hd ll).kind = 1) = b := ⟨_, rfl⟩
          have HB47 := Lib.hid hb47
          clear hb47
          go_cut [47] from 34 to 47 (fun v wx => v = .bool b47 ∧ wr = wx)
          case first =>
            clear HR7
            obtain ⟨o, cap, HA⟩ := H6
            obtain ⟨c0, c1, c2, c3, c4, c5, c6⟩ := HA.head hll.len
            have r0 := Blk.cell HA.1 0 rfl
            have cg := BG6.cell 0 rfl
            by_cases e0 : acc.length = 64
            · have q0 : ((acc.length : Int) == 64) = true := by rw [e0]; rfl
              by_cases e6 : (hd ll).kind = 1
              · have q6 : (((hd ll).kind : Int) == 1) = true := by rw [e6]; rfl
                have HX : Hid (b47 = true) := Lib.hid (by rw [← HB47.out]; simp [e0, e6])
                clear e0 e6
                go_wp2_with fail
                go_meet
                case rel => exact ⟨by rw [HX.out], rfl⟩
              · have q6 : (((hd ll).kind : Int) == 1) = false := by rw [beq_eq_false_iff_ne]; omega
                have HX : Hid (b47 = false) := Lib.hid (by rw [← HB47.out]; simp [e0, e6])
                clear e0 e6
                go_wp2_with fail
                go_meet
                case rel => exact ⟨by rw [HX.out], rfl⟩
            · have q0 : ((acc.length : Int) == 64) = false := by rw [beq_eq_false_iff_ne]; omega
              have HX : Hid (b47 = false) := Lib.hid (by rw [← HB47.out]; simp [e0])
              clear e0
              go_wp2_with fail
              go_meet
              case rel => exact ⟨by rw [HX.out], rfl⟩
          case rest =>
            obtain ⟨rfl, rfl⟩ := hcut
            cases b47 with
            | true =>
              have hx : acc.length = 64 ∧ (hd ll).kind = 1 := of_decide_eq_true HB47.out
              have hr7 := HR7.out
              rw [if_pos hx] at hr7
              have HR8 := Lib.hid hr7
              have CS := Lib.hid (stop_any br g ll 0 2 2 rfl wr H6 hll)
              clear hx hr7 HR7
              go_wp2_with fail
              with_reducible refine CS.out.mono ?_
              rintro e w8 HS
              obtain ⟨F8, b, rfl, h2, h3⟩ := HS
              go_wp2_with fail
              rw [HR.out, ← HR8.out]
              exact door_fault bg b _ rfl rfl w w8 _ _ _ [br, bg] (BG6.fr F8 (by simp)) (BE6.fr F8 (by simp)) h3 (FW.trans F8 (by simp)) (by simp; omega) hwbg (by have := FW.size; omega) (by have := BE6.lt; omega)
            | false =>
              have hx : ¬ (acc.length = 64 ∧ (hd ll).kind = 1) := of_decide_eq_false HB47.out
              have hr7 := HR7.out
              rw [if_neg hx] at hr7
              by_cases k1 : (hd ll).kind = 1
              · rw [if_neg (by omega)] at hr7
                by_cases k2 : (hd ll.tail).kind = 2
                · rw [if_neg (by omega)] at hr7
                  obtain ⟨e1, e2, e3⟩ := tail2 hll k1 k2
                  have CM := Lib.hid (smust_ok br g ll 0 1 1 rfl wr H6 hll k1 (by decide))
                  have CM2 := Lib.hid (fun w9 H9 => smust_ok br g ll.tail 0 2 2 rfl w9 H9 e1 k2 (by decide))
                  have HR8 := Lib.hid hr7
                  clear hx hr7 HR7 k1 k2
                  go_wp2_with fail
                  with_reducible refine CM.out.mono ?_
                  rintro e w8 ⟨rfl, F8, H8⟩
                  simp only [Tok.val]
                  go_upto_region 10 with fail
                  obtain ⟨w9, bt, e9, e10, F9, T9, S9⟩ := alloc_new w8 #[.int .i64 (hd ll).kind, .string ⟨(hd ll).text.toArray⟩, .int .u64 (hd ll).cls.a, .int .u64 (hd ll).cls.b, .int .u64 (hd ll).cls.c, .int .u64 (hd ll).cls.d, .int .i64 (hd ll).at_] 40
                  rw [e9, e10.out]
                  have H9 := H8.fr0 F9
                  have BG9 := (BG6.fr F8 (by simpa using hbgr1)).fr F9 (by simp)
                  have BE9 := (BE6.fr F8 (by simpa using hbgr2)).fr F9 (by simp)
                  have F89 := F8.trans F9 (by simp)
                  have G9 := G6.fr F89 (by simpa using hbrB)
                  have FW9 := FW.trans F89 (by simp)
                  have FB9 := FB6.trans (F89.toB' (T := [br, bg]) B (by simp))
                  have CN := Lib.hid (CM2.out w9 H9)
                  have hbrw : br < wr.heap.size := H6.lt.1
                  have hbtw : wr.heap.size ≤ bt := by have := e10.out; have := F8.size; omega
                  clear e9 CM CM2 H6 BG6 BE6 G6 FW FB6 F8 H8 F9 F89 H9
                  go_wp2_with fail
                  with_reducible refine CN.out.mono ?_
                  rintro e w10 ⟨rfl, F10, H10⟩
                  have hbtr : bt ≠ br := by have := FW9.size; omega
                  have T10 := T9.fr F10 (by simpa using hbtr)
                  have BG10 := BG9.fr F10 (by simpa using hbgr1)
                  have BE10 := BE9.fr F10 (by simpa using hbgr2)
                  have G10 := G9.fr F10 (by simpa using hbrB)
                  have FW10 := FW9.trans F10 (by simp)
                  have FB10 := FB9.trans (F10.toB' (T := [br, bg]) B (by simp))
                  clear CN T9 BG9 BE9 G9 FW9 FB9 F10
                  obtain ⟨l3, hl3⟩ : ∃ l3, ll.tail.tail = l3 := ⟨_, rfl⟩
                  rw [hl3] at H10 e2 e3
                  have hr8 := HR8.out
                  rw [hl3] at hr8
                  obtain ⟨r2, hr2⟩ : ∃ r2, choiceP k 0 l3 = r2 := ⟨_, rfl⟩
                  rw [hr2] at hr8
                  have hne2 : r2 ≠ .out := by rintro rfl; exact hne hr8.symm
                  have CC := Lib.hid (choice_ok k br g l3 0 w10.drew r2 H10 e2 (by omega) (by omega) hr2 hne2)
                  have HGG : Hid (∀ t l1, r2 = .ok t l1 → Ends l1 ∧ l1.length ≤ l3.length) := Lib.hid (fun t l1 e => (good k).choice _ _ _ _ e2 (hr2.trans e))
                  have HR9 := Lib.hid hr8
                  obtain ⟨nm, hnm⟩ : ∃ nm, (hd ll).text = nm := ⟨_, rfl⟩
                  obtain ⟨ap, hap⟩ : ∃ ap, (hd ll).at_ = ap := ⟨_, rfl⟩
                  rw [hnm, hap] at HR9 T10
                  obtain ⟨t0, t1, t2, t3, t4, t5, t6⟩ := T10.c7
                  have cg := BG10.cell 0 rfl
                  have hbtr' : br ≠ bt := Ne.symm hbtr
                  clear hr8 hr2 HR8 hl3 t0 t2 t3 t4 t5 hnm hap
                  go_upto_region 11 with fail
                  match r2, hne2, HGG, HR9, CC with
                  | .out, hne2, HGG, HR9, CC => exact absurd rfl hne2
                  | .stop c a, hne2, HGG, HR9, CC =>
                    have hstop : ∀ b w11, Fr [br] w10.drew w11 → w10.drew.heap.size ≤ b → Blk w11 b #[.int .i64 c, .int .i64 a] 76 → StopOut [br, bg] w bg c a [{ v := .iface 62 (.pointer (some ⟨b, 0, none⟩)), recovered := false }] w11 := fun b w11 F11 h2 h3 => by
                      have F11' : Fr [br] w10 w11 := ⟨F11.os, F11.tape, F11.output, F11.size, F11.block⟩
                      have h2' : w10.heap.size ≤ b := h2
                      exact ⟨b, _, rfl, BG10.fr F11' (by simpa using hbgr1), BE10.fr F11' (by simpa using hbgr2), h3, FW10.trans F11' (by simp), by have := FW10.size; omega, by have := BE10.lt; omega⟩
                    have HE : Hid (parseP s.data.toList = .err c a) := Lib.hid (by rw [HR.out, ← HR9.out]; rfl)
                    refine Code.wp_mono (Q := stopQ bg (StopOut [br, bg] w bg c a)) (fun e A W h => ?_) ?_
                    · obtain ⟨h9, ch, rfl⟩ := stopQ_door (by simp; omega) hwbg _ _ _ h
                      rw [HE.out]
                      exact h9
                    clear HE HR9 HGG BG10 BE10 G10 FB10 H10 FW10 T10
                    refine wp_region_any (by kernel_rfl) ?_
                    try (change wpAny _ _ _ _ _ _ _ (World.drew _))
                    refine wpAny_take (i := 0) (v := ?_) rfl (by kernel_rfl) (by kernel_rfl) (by kernel_rfl) (fun _ _ _ h => stopQ_put 54 (by decide) (by decide) h) (Or.inl ⟨by rfl, ?_⟩) ?_
                    rotate_left
                    · (intro W; go_simp; try (with_reducible rfl))
                    refine wpAny_take (i := 2) (v := ?_) rfl (by kernel_rfl) (by kernel_rfl) (by kernel_rfl) (fun _ _ _ h => stopQ_put 56 (by decide) (by decide) h) (Or.inl ⟨by rfl, ?_⟩) ?_
                    rotate_left
                    · (intro W; go_simp; try (with_reducible rfl))
                    refine wpAny_take (i := 4) (v := ?_) rfl (by kernel_rfl) (by kernel_rfl) (by kernel_rfl) (fun _ _ _ h => stopQ_put 58 (by decide) (by decide) h) (Or.inl ⟨by rfl, ?_⟩) ?_
                    rotate_left
                    · (intro W; go_simp; try (with_reducible rfl))
                    refine wpAny_take (i := 6) (v := ?_) rfl (by kernel_rfl) (by kernel_rfl) (by kernel_rfl) (fun _ _ _ h => stopQ_put 60 (by decide) (by decide) h) (Or.inl ⟨by rfl, ?_⟩) ?_
                    rotate_left
                    · (intro W; go_simp; try (with_reducible rfl))
                    refine wpAny_ready (rs := [1, 3, 5, 7]) (by kernel_rfl) (by simp) ?_
                    refine AllReady.cons rfl (fun K hK => ?_) ?_
                    · go_simp
                      refine hK _ _ ?_
                      clear hK K
                      refine wpAny_ready (rs := [3, 5, 7]) (by kernel_rfl) (by simp) ?_
                      refine AllReady.cons rfl (fun K hK => ?_) ?_
                      · go_simp
                        refine hK _ _ ?_
                        clear hK K
                        refine wpAny_ready (rs := [5, 7]) (by kernel_rfl) (by simp) ?_
                        refine AllReady.cons rfl (fun K hK => ?_) ?_
                        · go_simp
                          refine hK _ _ ?_
                          clear hK K
                          refine wpAny_ready (rs := [7]) (by kernel_rfl) (by simp) ?_
                          refine AllReady.cons rfl (fun K hK => ?_) ?_
                          · go_simp
                            with_reducible refine CC.out.mono ?_
                            rintro e w11 ⟨F11, b, rfl, h2, h3⟩
                            exact ⟨by rfl, by rfl, rfl, hstop _ _ F11 h2 h3⟩
                          exact AllReady.nil
                        refine AllReady.cons rfl (fun K hK => ?_) ?_
                        · go_simp
                          with_reducible refine CC.out.mono ?_
                          rintro e w11 ⟨F11, b, rfl, h2, h3⟩
                          exact ⟨by rfl, by rfl, rfl, hstop _ _ F11 h2 h3⟩
                        exact AllReady.nil
                      refine AllReady.cons rfl (fun K hK => ?_) ?_
                      · go_simp
                        refine hK _ _ ?_
                        clear hK K
                        refine wpAny_ready (rs := [3, 7]) (by kernel_rfl) (by simp) ?_
                        refine AllReady.cons rfl (fun K hK => ?_) ?_
                        · go_simp
                          refine hK _ _ ?_
                          clear hK K
                          refine wpAny_ready (rs := [7]) (by kernel_rfl) (by simp) ?_
                          refine AllReady.cons rfl (fun K hK => ?_) ?_
                          · go_simp
                            with_reducible refine CC.out.mono ?_
                            rintro e w11 ⟨F11, b, rfl, h2, h3⟩
                            exact ⟨by rfl, by rfl, rfl, hstop _ _ F11 h2 h3⟩
                          exact AllReady.nil
                        refine AllReady.cons rfl (fun K hK => ?_) ?_
                        · go_simp
                          with_reducible refine CC.out.mono ?_
                          rintro e w11 ⟨F11, b, rfl, h2, h3⟩
                          exact ⟨by rfl, by rfl, rfl, hstop _ _ F11 h2 h3⟩
                        exact AllReady.nil
                      refine AllReady.cons rfl (fun K hK => ?_) ?_
                      · go_simp
                        with_reducible refine CC.out.mono ?_
                        rintro e w11 ⟨F11, b, rfl, h2, h3⟩
                        exact ⟨by rfl, by rfl, rfl, hstop _ _ F11 h2 h3⟩
                      exact AllReady.nil
                    refine AllReady.cons rfl (fun K hK => ?_) ?_
                    · go_simp
                      refine hK _ _ ?_
                      clear hK K
                      refine wpAny_ready (rs := [1, 5, 7]) (by kernel_rfl) (by simp) ?_
                      refine AllReady.cons rfl (fun K hK => ?_) ?_
                      · go_simp
                        refine hK _ _ ?_
                        clear hK K
                        refine wpAny_ready (rs := [5, 7]) (by kernel_rfl) (by simp) ?_
                        refine AllReady.cons rfl (fun K hK => ?_) ?_
                        · go_simp
                          refine hK _ _ ?_
                          clear hK K
                          refine wpAny_ready (rs := [7]) (by kernel_rfl) (by simp) ?_
                          refine AllReady.cons rfl (fun K hK => ?_) ?_
                          · go_simp
                            with_reducible refine CC.out.mono ?_
                            rintro e w11 ⟨F11, b, rfl, h2, h3⟩
                            exact ⟨by rfl, by rfl, rfl, hstop _ _ F11 h2 h3⟩
                          exact AllReady.nil
                        refine AllReady.cons rfl (fun K hK => ?_) ?_
                        · go_simp
                          with_reducible refine CC.out.mono ?_
                          rintro e w11 ⟨F11, b, rfl, h2, h3⟩
                          exact ⟨by rfl, by rfl, rfl, hstop _ _ F11 h2 h3⟩
                        exact AllReady.nil
                      refine AllReady.cons rfl (fun K hK => ?_) ?_
                      · go_simp
                        refine hK _ _ ?_
                        clear hK K
                        refine wpAny_ready (rs := [1, 7]) (by kernel_rfl) (by simp) ?_
                        refine AllReady.cons rfl (fun K hK => ?_) ?_
                        · go_simp
                          refine hK _ _ ?_
                          clear hK K
                          refine wpAny_ready (rs := [7]) (by kernel_rfl) (by simp) ?_
                          refine AllReady.cons rfl (fun K hK => ?_) ?_
                          · go_simp
                            with_reducible refine CC.out.mono ?_
                            rintro e w11 ⟨F11, b, rfl, h2, h3⟩
                            exact ⟨by rfl, by rfl, rfl, hstop _ _ F11 h2 h3⟩
                          exact AllReady.nil
                        refine AllReady.cons rfl (fun K hK => ?_) ?_
                        · go_simp
                          with_reducible refine CC.out.mono ?_
                          rintro e w11 ⟨F11, b, rfl, h2, h3⟩
                          exact ⟨by rfl, by rfl, rfl, hstop _ _ F11 h2 h3⟩
                        exact AllReady.nil
                      refine AllReady.cons rfl (fun K hK => ?_) ?_
                      · go_simp
                        with_reducible refine CC.out.mono ?_
                        rintro e w11 ⟨F11, b, rfl, h2, h3⟩
                        exact ⟨by rfl, by rfl, rfl, hstop _ _ F11 h2 h3⟩
                      exact AllReady.nil
                    refine AllReady.cons rfl (fun K hK => ?_) ?_
                    · go_simp
                      refine hK _ _ ?_
                      clear hK K
                      refine wpAny_ready (rs := [1, 3, 7]) (by kernel_rfl) (by simp) ?_
                      refine AllReady.cons rfl (fun K hK => ?_) ?_
                      · go_simp
                        refine hK _ _ ?_
                        clear hK K
                        refine wpAny_ready (rs := [3, 7]) (by kernel_rfl) (by simp) ?_
                        refine AllReady.cons rfl (fun K hK => ?_) ?_
                        · go_simp
                          refine hK _ _ ?_
                          clear hK K
                          refine wpAny_ready (rs := [7]) (by kernel_rfl) (by simp) ?_
                          refine AllReady.cons rfl (fun K hK => ?_) ?_
                          · go_simp
                            with_reducible refine CC.out.mono ?_
                            rintro e w11 ⟨F11, b, rfl, h2, h3⟩
                            exact ⟨by rfl, by rfl, rfl, hstop _ _ F11 h2 h3⟩
                          exact AllReady.nil
                        refine AllReady.cons rfl (fun K hK => ?_) ?_
                        · go_simp
                          with_reducible refine CC.out.mono ?_
                          rintro e w11 ⟨F11, b, rfl, h2, h3⟩
                          exact ⟨by rfl, by rfl, rfl, hstop _ _ F11 h2 h3⟩
                        exact AllReady.nil
                      refine AllReady.cons rfl (fun K hK => ?_) ?_
                      · go_simp
                        refine hK _ _ ?_
                        clear hK K
                        refine wpAny_ready (rs := [1, 7]) (by kernel_rfl) (by simp) ?_
                        refine AllReady.cons rfl (fun K hK => ?_) ?_
                        · go_simp
                          refine hK _ _ ?_
                          clear hK K
                          refine wpAny_ready (rs := [7]) (by kernel_rfl) (by simp) ?_
                          refine AllReady.cons rfl (fun K hK => ?_) ?_
                          · go_simp
                            with_reducible refine CC.out.mono ?_
                            rintro e w11 ⟨F11, b, rfl, h2, h3⟩
                            exact ⟨by rfl, by rfl, rfl, hstop _ _ F11 h2 h3⟩
                          exact AllReady.nil
                        refine AllReady.cons rfl (fun K hK => ?_) ?_
                        · go_simp
                          with_reducible refine CC.out.mono ?_
                          rintro e w11 ⟨F11, b, rfl, h2, h3⟩
                          exact ⟨by rfl, by rfl, rfl, hstop _ _ F11 h2 h3⟩
                        exact AllReady.nil
                      refine AllReady.cons rfl (fun K hK => ?_) ?_
                      · go_simp
                        with_reducible refine CC.out.mono ?_
                        rintro e w11 ⟨F11, b, rfl, h2, h3⟩
                        exact ⟨by rfl, by rfl, rfl, hstop _ _ F11 h2 h3⟩
                      exact AllReady.nil
                    refine AllReady.cons rfl (fun K hK => ?_) ?_
                    · go_simp
                      with_reducible refine CC.out.mono ?_
                      rintro e w11 ⟨F11, b, rfl, h2, h3⟩
                      exact ⟨by rfl, by rfl, rfl, hstop _ _ F11 h2 h3⟩
                    exact AllReady.nil
                  | .ok t l4, hne2, HGG, HR9, CC =>
                    clear hne2
                    obtain ⟨hl4, hll4⟩ := HGG.out _ _ rfl
                    obtain ⟨xs, hown10, GR10⟩ := G10
                    obtain ⟨i0, hi, hz0, hz1, hz2⟩ := info_parts Tryd.info_rule
                    have hownM := hown10.lt
                    have hw10B : B ≤ w10.heap.size := by have := FB10.size; have := HB.out; omega
                    refine Code.wp_mono (Q := Once (AtEnd s ts gt ct bg br) (RuleIn br g bg B w4 (acc ++ [⟨nm, t, ap⟩]) l4)) (fun e A W h => ?_) ?_
                    · match e, h with
                      | .normal, ⟨⟨x6, x20, x21, x22, x23, x24, x25, x26, x27, x28, x29, x30, x31, x32, x33, x34, x35, x36, x37, x38, x39, x40, x41, x42, x43, x44, x45, x46, x47, x48, x49, x50, x51, x52, x53, x54, x55, x56, x57, x58, x59, x60, x61, x62, x63, x64, x65, hA⟩, lv, H12, BG12, BE12, G12, FB12⟩ =>
                        subst hA
                        clear hown10 hownM GR10 BG10 BE10 FB10 H10 FW10 T10 cg t1 t6 CC hi hz0 hz1 hz2 xs hw10B
                        unfold door
                        go_wp2_with fail
                        go_roundg k
                        case measure => omega
                        case rel => exact ⟨acc ++ [⟨nm, t, ap⟩], l4, lv, H12, hl4, by simp; omega, BG12, BE12, G12, FB12, HR9.out⟩
                    go_region_law (first
                      | (refine step_append_lies _ (by rfl) _ _ _ (by rfl) B 45 i0 _ 10 112 Tryd.underlying23 hi hz0 hz1 hz2 rfl (by omega) (.slice lp acc.length lc) acc.length xs (by rfl) (hown11.alloc _)
                          ⟨w11.heap.size, 0, none⟩ 1 1 [.string ⟨nm.toArray⟩, .int .i64 t.kind, .string ⟨t.text.toArray⟩, .int .u64 t.cls.a, .int .u64 t.cls.b, .int .u64 t.cls.c, .int .u64 t.cls.d, .slice sp sn sc, .int .i64 t.at_, .int .i64 ap] (by rfl) (by rfl)
                          (World.news_of_block (cs := #[.string ⟨nm.toArray⟩, .int .i64 t.kind, .string ⟨t.text.toArray⟩, .int .u64 t.cls.a, .int .u64 t.cls.b, .int .u64 t.cls.c, .int .u64 t.cls.d, .slice sp sn sc, .int .i64 t.at_, .int .i64 ap]) (t := 45) (fr := (0, 0)) (heap_alloc_new w11 _)) (by simp [Value.oneCell'])
                          (by omega) (by unfold maxLen; omega) (by omega) (by simp; omega) (w11.heap.size + 1) (by simp) ?_; intro gg cap w12 hown12 hgrow hat hlt12
                         have BG12 : Blk w12 bg #[.slice lp acc.length lc] 25 := (hgrow.block bg (by simp; have := BG11.lt; omega) (fun e => by have := (hownM _ e.symm).1; omega)).trans (BG11.alloc _)
                         have d2 : w12.cell? ⟨bg, 0, none⟩ = some (.slice lp acc.length lc) := BG12.cell 0 rfl
                         have f2 : w12.frozen? ⟨bg, 0, none⟩ = false := BG12.free 0)
                      | (go_simp; go_at_call 25; (with_reducible refine CC.out.mono ?_); rintro e w11 ⟨cs, rfl, F11, N11, H11⟩
                         obtain ⟨sp, sn, sc, rfl⟩ := N11.shape
                         have F11' : Fr [br] w10 w11 := ⟨F11.os, F11.tape, F11.output, F11.size, F11.block⟩
                         have T11 := T10.fr F11' (by simpa using hbtr)
                         have BG11 := BG10.fr F11' (by simpa using hbgr1)
                         have hown11 : w11.ownsRow B 45 10 (.slice lp acc.length lc) acc.length xs := ownsRow.fr hown10 F11' (by simpa using hbrB)
                         have hsz11 : w10.heap.size ≤ w11.heap.size := F11'.size
                         have u1 : w11.cell? ⟨bt, 1, none⟩ = some (.string ⟨nm.toArray⟩) := T11.cell 1 rfl
                         have u6 : w11.cell? ⟨bt, 6, none⟩ = some (.int .i64 ap) := T11.cell 6 rfl
                         have uga : ∀ o, (w11.alloc o).cell? ⟨bg, 0, none⟩ = some (.slice lp acc.length lc) := fun o => (BG11.alloc o).cell 0 rfl
                         have ug : w11.cell? ⟨bg, 0, none⟩ = some (.slice lp acc.length lc) := BG11.cell 0 rfl))
                    all_goals
                      have RI := rule_done (lv := .slice lp acc.length lc) hw10B hbgr1 hbgr2 (Ne.symm hgbg) hbrB hgB hber hownM GR10 hown10.1 F11' N11 BG10 BE10 H11 FB10 hown12 hgrow hat
                      exact ⟨by repeat (first | exact rfl | apply Exists.intro), RI⟩
                · rw [if_pos (by omega), wrongAt_eq] at hr7
                  have e1 := hll.tail (by omega)
                  have CM := Lib.hid (smust_ok br g ll 0 1 1 rfl wr H6 hll k1 (by decide))
                  have CM2 := Lib.hid (fun w9 H9 => smust_no br g ll.tail 0 2 2 rfl w9 H9 e1 k2)
                  have HR8 := Lib.hid hr7
                  clear hx hr7 HR7 k1 k2
                  go_wp2_with fail
                  with_reducible refine CM.out.mono ?_
                  rintro e w8 ⟨rfl, F8, H8⟩
                  simp only [Tok.val]
                  go_upto_region 10 with fail
                  obtain ⟨w9, bt, e9, e10, F9, T9, S9⟩ := alloc_new w8 #[.int .i64 (hd ll).kind, .string ⟨(hd ll).text.toArray⟩, .int .u64 (hd ll).cls.a, .int .u64 (hd ll).cls.b, .int .u64 (hd ll).cls.c, .int .u64 (hd ll).cls.d, .int .i64 (hd ll).at_] 40
                  rw [e9, e10.out]
                  have H9 := H8.fr0 F9
                  have BG9 := (BG6.fr F8 (by simpa using hbgr1)).fr F9 (by simp)
                  have BE9 := (BE6.fr F8 (by simpa using hbgr2)).fr F9 (by simp)
                  have F89 := F8.trans F9 (by simp)
                  have G9 := G6.fr F89 (by simpa using hbrB)
                  have FW9 := FW.trans F89 (by simp)
                  have FB9 := FB6.trans (F89.toB' (T := [br, bg]) B (by simp))
                  have CN := Lib.hid (CM2.out w9 H9)
                  have hbrw : br < wr.heap.size := H6.lt.1
                  have hbtw : wr.heap.size ≤ bt := by have := e10.out; have := F8.size; omega
                  clear e9 CM CM2 H6 BG6 BE6 G6 FW FB6 F8 H8 F9 F89 H9
                  go_wp2_with fail
                  with_reducible refine CN.out.mono ?_
                  rintro e w10 HS
                  obtain ⟨F10, b, rfl, h2, h3⟩ := HS
                  go_wp2_with fail
                  rw [HR.out, ← HR8.out]
                  exact door_fault bg b _ rfl rfl w w10 _ _ _ [br, bg] (BG9.fr F10 (by simp)) (BE9.fr F10 (by simp)) h3 (FW9.trans F10 (by simp)) (by simp; omega) hwbg (by have := FW9.size; omega) (by have := BE9.lt; omega)
              · rw [if_pos (by omega), wrongAt_eq] at hr7
                have CM := Lib.hid (smust_no br g ll 0 1 1 rfl wr H6 hll k1)
                have HR8 := Lib.hid hr7
                clear hx hr7 HR7 k1
                go_wp2_with fail
                with_reducible refine CM.out.mono ?_
                rintro e w8 HS
                obtain ⟨F8, b, rfl, h2, h3⟩ := HS
                go_wp2_with fail
                rw [HR.out, ← HR8.out]
                exact door_fault bg b _ rfl rfl w w8 _ _ _ [br, bg] (BG6.fr F8 (by simp)) (BE6.fr F8 (by simp)) h3 (FW.trans F8 (by simp)) (by simp; omega) hwbg (by have := FW.size; omega) (by have := BE6.lt; omega)
end Go.Proofs.YtglknnncpaggpaaDoor
