/- The reader: row. -/
import Derived.Test.YtglknnncpaggpaaDoorSynF
import Derived.Deep.LoopGhost
import Derived.Lib.SliceRun
namespace Go.Proofs.YtglknnncpaggpaaDoor
open Go.RowKit

theorem FrB.after {B : Nat} {S : List Nat} {w w2 w' : World} (h : FrB B S w2 w') (F : Fr [] w w2) (hB : w.heap.size ≤ B) : Fr S w w' :=
  ⟨h.os.trans F.os, h.tape.trans F.tape, h.output.trans F.output, Nat.le_trans F.size h.size, fun k hk hn => (h.block k (by omega) (by have := F.size; omega) hn).trans (F.block k hk (by simp))⟩
theorem Blk.frB {B : Nat} {S : List Nat} {w w' : World} {b : Nat} {cs : Array Value} {T : TypeId} (h : Blk w b cs T) (hf : FrB B S w w') (hb : b < B) (hn : b ∉ S) : Blk w' b cs T :=
  (hf.block b hb h.lt hn).trans h
theorem grow_new {w : World} {bl : Nat} (h : Blk w bl #[.slice none 0 0] 41) (B : Nat) : Grow w B bl [] :=
  ⟨_, [], h, World.ownsRow_nil _ _ _ _, by unfold RowAt; trivial, fun _ => rfl⟩
def rowEnd (acc : List Tree) (l : List Tok) : Tree := match acc with
  | [] => .node 1 [] cls0 [] (hd l).at_
  | t :: ts => joinedP 6 (t :: ts)
theorem rowLoop_succ (f d : Nat) (acc : List Tree) (l : List Tok) : rowLoop (f + 1) d acc l = match partP f d l with
    | .out => .out
    | .stop c a => .stop c a
    | .ok none l1 => .ok (rowEnd acc l1) l1
    | .ok (some t) l1 => rowLoop f d (acc ++ [t]) l1 := by
  simp only [rowLoop]
  cases partP f d l with
  | out => rfl
  | stop c a => rfl
  | ok a l1 => cases a with
    | none => cases acc <;> rfl
    | some t => rfl

set_option maxHeartbeats 16000000 in
set_option maxRecDepth 100000 in
theorem row_step (f : Nat) (hP : ∀ k, k ≤ f → PartOK k) : RowOK (f + 1) := by
  intro br g l d w r H hl hlen hd24 hr hne
  obtain ⟨hbr, hg⟩ := H.lt
  simp only [rowP] at hr
  have HR := Lib.hid hr
  clear hr
  go_enter Tryd.func43, Tryd.ntmps43
  go_upto_region 1 with fail
  obtain ⟨w1, b1, e1, e2, F1, R1, S1⟩ := alloc_new w #[.int .i64 0, .string ⟨#[]⟩, .int .u64 0, .int .u64 0, .int .u64 0, .int .u64 0, .slice none 0 0, .int .i64 0] 43
  rw [e1, e2.out]
  go_upto_region 2 with fail
  obtain ⟨w2, bl, e3, e4, F2, L2, S2⟩ := alloc_new w1 #[.slice none 0 0] 41
  rw [e3, e4.out]
  have H2 := (H.fr0 F1).fr0 F2
  have R2 := R1.fr F2 (by simp)
  have G2 := grow_new L2 bl
  have F12 := F1.trans F2 (by simp)
  have h1l : b1 < bl := by have := e4.out; have := S1.out; omega
  have h1w : w.heap.size ≤ b1 := by have := e2.out; omega
  have h1r : b1 ≠ br := by omega
  have h1g : b1 ≠ g := by omega
  have hbrl : br < bl := by omega
  have hgl : g < bl := by omega
  have hwl : w.heap.size ≤ bl := by omega
  clear e1 e3 H F1 F2 R1 L2
  go_loopg [5] f (fun k _a wr => k ≤ f ∧ ∃ acc ll, Rdr wr br g ll d ∧ Ends ll ∧ acc.length + ll.length ≤ l.length ∧ Grow wr bl bl acc ∧ FrB bl [br] w2 wr ∧ rowLoop k d acc ll = r)
  case atStart => exact ⟨Nat.le_refl _, [], l, H2, hl, by simp, G2, FrB.refl _ _ _, HR.out⟩
  case round =>
    obtain ⟨hkf, acc, ll, H3, hll, hlen3, G3, FB3, hr3⟩ := hrel
    clear HR H2 G2
    obtain ⟨k, rfl⟩ : ∃ k, gk = k + 1 := by
      cases gk with
      | zero => simp only [rowLoop] at hr3; exact absurd hr3.symm hne
      | succ k => exact ⟨k, rfl⟩
    have R3 := R2.frB FB3 h1l (by simpa using h1r)
    have FW := FB3.after F12 hwl
    rw [rowLoop_succ] at hr3
    have CP := hP k (by omega) br g ll d wr
    obtain ⟨r2, hr2⟩ : ∃ r2, partP k d ll = r2 := ⟨_, rfl⟩
    rw [hr2] at hr3
    have hne2 : r2 ≠ .out := by rintro rfl; exact hne hr3.symm
    have CC := Lib.hid (CP r2 bl bl acc H3 hll (by omega) hd24 G3 (Nat.le_refl _) hbrl hgl (by omega) hr2 hne2)
    have HGG : Hid (∀ t l1, r2 = .ok (some t) l1 → Ends l1 ∧ l1.length < ll.length) := Lib.hid (fun t l1 e => (good k).part _ _ _ _ hll (hr2.trans e))
    have HGN : Hid (∀ l1, r2 = .ok none l1 → l1 = ll) := Lib.hid (fun l1 e => (good k).partN _ _ _ hll (hr2.trans e))
    have HR3 := Lib.hid hr3
    clear hr3 hr2 hne2 CP R2
    go_wp2_with fail
    with_reducible refine CC.out.mono ?_
    rintro e w3 h3
    clear CC
    match r2, HGG, HGN, HR3, h3 with
    | .stop c a, HGG, HGN, HR3, h3 =>
      obtain ⟨F2, b, rfl, h2, h3⟩ := StopB.pre h3 FW
      go_wp2_with fail
      rw [← HR3.out]
      exact ⟨rfl, F2, b, rfl, h2, h3⟩
    | .ok (some t) l1, HGG, HGN, HR3, ⟨he, F4, H4, G4⟩ =>
      subst he
      obtain ⟨hl1, hll1⟩ := HGG.out _ _ rfl
      have FB4 := FB3.trans F4
      clear H3 G3 FB3 F4 FW R3 h3 HGG HGN
      go_wp2_with fail
      go_roundg k
      case measure => omega
      case rel => exact ⟨by omega, acc ++ [t], l1, H4, hl1, by simp; omega, G4, FB4, HR3.out⟩
    | .ok none l1, HGG, HGN, HR3, ⟨he, F4, H4⟩ =>
      subst he
      obtain rfl := HGN.out _ rfl
      have R4 := R3.fr F4 (by simpa using h1r)
      have G4 := G3.fr F4 (by simpa using hbrl) (Nat.le_refl _)
      have FW4 := FW.trans F4 (by simp)
      clear H3 G3 FB3 F4 FW R3 h3 HGG HGN
      obtain ⟨z0, z1, z2, z3, z4, z5, z6, z7⟩ := R4.c8
      have zf := R4.free
      match acc, hlen3, G4, HR3 with
      | [], hlen3, G4, HR3 =>
        obtain ⟨lv, xs, GB, _, _, hnil⟩ := G4
        obtain rfl := hnil rfl
        have hl0 := GB.cell 0 rfl
        have hq : ∀ W, (binOp .eql 41 (.slice none 0 0) (.slice none 0 0)).run Tryd.prog W = .ok (.bool true) W := fun W => Lib.run_eql_slice_nil W 41 43 none 0 0 0 0 Tryd.underlying41
        have hi0 : (0 : Int) < (l1.length : Int) := by have := hll.len; omega
        clear hnil
        obtain ⟨o, cap, HA⟩ := H4
        obtain ⟨c0, c1, c2, c3, c4, c5, c6⟩ := HA.head hll.len
        have r0 := Blk.cell HA.1 0 rfl
        go_wp2_with fail
        clear c0 c1 c2 c3 c4 c5 c6 r0 hl0 hq z0 z1 z2 z3 z4 z5 z6 z7 zf
        change bodyPost _ _ _ _ _ (put w3 b1 0 [.int .i64 1, .string ⟨#[]⟩, .int .u64 0, .int .u64 0, .int .u64 0, .int .u64 0, .slice none 0 0, .int .i64 (hd l1).at_])
        obtain ⟨w6, e11, F6, R6, S6⟩ := put_new R4 [.int .i64 1, .string ⟨#[]⟩, .int .u64 0, .int .u64 0, .int .u64 0, .int .u64 0, .slice none 0 0, .int .i64 (hd l1).at_] rfl
        rw [e11]
        obtain ⟨k0, k1, k2, k3, k4, k5, k6, k7⟩ := R6.c8
        have FB6 := FW4.trans F6 (by simp; omega)
        have H6 := Rdr.fr ⟨o, cap, HA⟩ F6 (by simpa using Ne.symm h1r) (by simpa using Ne.symm h1g)
        refine bodyPost_ret (v := .agg [.int .i64 1, .string ⟨#[]⟩, .int .u64 0, .int .u64 0, .int .u64 0, .int .u64 0, .slice none 0 0, .int .i64 (hd l1).at_].toArray) (by simp [results, Tryd.results43, go_sem, k0, k1, k2, k3, k4, k5, k6, k7]) rfl ?_
        rw [← HR3.out]
        refine ⟨_, rfl, FB6, ?_, H6⟩
        unfold rowEnd NodeAt
        exact ⟨_, [], rfl, ⟨rfl, .inl ⟨rfl, rfl⟩⟩, by unfold RowAt; trivial⟩
      | t :: ts, hlen3, G4, HR3 =>
        obtain ⟨lp, lc, xs, GB, hown, GR, hownl⟩ := G4.form
        obtain ⟨gl, cl, hv, hgl1, hgl2⟩ := hown.form (by simp)
        obtain ⟨rfl, rfl⟩ : lp = some ⟨gl, 0, none⟩ ∧ lc = cl := by injection hv with h1 h2 h3; exact ⟨h1, h3⟩
        have hl0 := GB.cell 0 rfl
        have hq : ∀ W, (binOp .eql 41 (.slice (some ⟨gl, 0, none⟩) (ts.length + 1) lc) (.slice none 0 0)).run Tryd.prog W = .ok (.bool false) W := fun W => Lib.run_eql_slice_nil W 41 43 _ _ _ 0 0 Tryd.underlying41
        have CJ := Lib.hid (joined_any 6 6 rfl t ts (.slice (some ⟨gl, 0, none⟩) (ts.length + 1) lc) xs (fun b => bl ≤ b) w3 (Slc.of_owns hown) (RowAt.mono (fun b hb => hb.1) _ _ GR))
        clear hv z0 z1 z2 z3 z4 z5 z6 z7 zf
        simp only [List.length_cons] at hl0
        go_wp2_with fail
        with_reducible refine CJ.out.mono ?_
        rintro e w5 ⟨cs, rfl, F5, N5⟩
        obtain ⟨sp, sn, sc, hsh⟩ := N5.shape
        subst hsh
        have R5 := R4.fr F5 (by simp)
        have H5 := H4.fr0 F5
        have FW5 := FW4.trans F5 (by simp)
        obtain ⟨n, hn⟩ : ∃ n, joinedP 6 (t :: ts) = n := ⟨_, rfl⟩
        have HR4 : Hid (.ok n l1 = r) := Lib.hid (by rw [← hn]; exact HR3.out)
        rw [hn] at N5 ⊢
        clear CJ R4 H4 FW4 F5 hl0 hq GB hown GR hownl G4 HR3 hn
        obtain ⟨z0, z1, z2, z3, z4, z5, z6, z7⟩ := R5.c8
        have zf := R5.free
        go_wp2_with fail
        clear z0 z1 z2 z3 z4 z5 z6 z7 zf
        change bodyPost _ _ _ _ _ (put w5 b1 0 [.int .i64 n.kind, .string ⟨n.text.toArray⟩, .int .u64 n.cls.a, .int .u64 n.cls.b, .int .u64 n.cls.c, .int .u64 n.cls.d, .slice sp sn sc, .int .i64 n.at_])
        obtain ⟨w6, e11, F6, R6, S6⟩ := put_new R5 [.int .i64 n.kind, .string ⟨n.text.toArray⟩, .int .u64 n.cls.a, .int .u64 n.cls.b, .int .u64 n.cls.c, .int .u64 n.cls.d, .slice sp sn sc, .int .i64 n.at_] rfl
        rw [e11]
        obtain ⟨k0, k1, k2, k3, k4, k5, k6, k7⟩ := R6.c8
        have FB6 := FW5.trans F6 (by simp; omega)
        have H6 := H5.fr F6 (by simpa using Ne.symm h1r) (by simpa using Ne.symm h1g)
        have N6 := N5.fr F6 (by simp; omega)
        refine bodyPost_ret (v := .agg [.int .i64 n.kind, .string ⟨n.text.toArray⟩, .int .u64 n.cls.a, .int .u64 n.cls.b, .int .u64 n.cls.c, .int .u64 n.cls.d, .slice sp sn sc, .int .i64 n.at_].toArray) (by simp [results, Tryd.results43, go_sem, k0, k1, k2, k3, k4, k5, k6, k7]) rfl ?_
        rw [← HR4.out]
        exact ⟨_, rfl, FB6, NodeAt.mono (fun b hb => Nat.le_trans hwl hb) _ _ N6, H6⟩
end Go.Proofs.YtglknnncpaggpaaDoor
