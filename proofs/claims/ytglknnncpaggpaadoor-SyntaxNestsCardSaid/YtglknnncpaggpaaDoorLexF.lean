/- The cutter: class. -/
import Derived.Test.YtglknnncpaggpaaDoorLexE
import Derived.Deep.CutRange
import Derived.StillTailTactics
namespace Go.Proofs.YtglknnncpaggpaaDoor
open Go.RowKit

theorem parseC_bad {l : List UInt8} {n : Nat} (h : parseC l = .bad n) : n ≤ l.length + 5 := by
  match l, h with
  | [], h => cases h; simp
  | c :: l, h =>
    simp only [parseC] at h
    split at h
    · cases h; simp
    · split at h
      · split at h
        · rename_i hm
          have := membersC_bad _ _ _ _ hm
          cases h
          rw [List.length_tail] at this
          simp only [List.length_cons]
          omega
        · cases h
      · split at h
        · rename_i hm
          have := membersC_bad _ _ _ _ hm
          cases h
          simp only [List.length_cons]
          omega
        · cases h
def clsTok (len : Nat) : R Cls → L (Nat × List UInt8 × Cls)
  | .ok x n => .ok (4, [], x) n
  | .bad n => .err (codeOf n len) n

def ParseRes (s : ByteArray) (r : R Cls) (lo : Nat) (w' : World) (c : Cls) (n : Int) (v : Value) : Prop :=
  match r with
  | .ok c' n' => c = c' ∧ n = n' ∧ v = .nilIface
  | .bad k => FaultAt lo w' v (codeAt s k) (k : Int)
theorem ParsePost.shape {s : ByteArray} {r : R Cls} {w : World} {e : Ending} {w' : World} (h : ParsePost s r w e w') :
    ∃ (c : Cls) (n : Int) (v : Value), e = .returned (.tuple #[.agg #[.int .u64 c.a, .int .u64 c.b, .int .u64 c.c, .int .u64 c.d], .int .i64 n, v]) ∧ Fr [] w w' ∧ ParseRes s r w.heap.size w' c n v := by
  obtain ⟨F, h⟩ := h
  match r, h with
  | .ok c n, h => exact ⟨c, n, _, h, F, rfl, rfl, rfl⟩
  | .bad k, ⟨v, h1, h2⟩ => exact ⟨cls0, 0, v, h1, F, h2⟩
theorem extract_list (s : ByteArray) (p : Nat) : (s.extract p s.size).data.toList = s.data.toList.drop p := by
  simp [List.take_of_length_le]

/-- What the first statement of (*cutter).class leaves: x, used, err := class.Parse(c.s[c.at:]). -/
def CMid (s : ByteArray) (p : Nat) (w : World) (a3 a4 a5 : Value) (wx : World) : Prop :=
  ∃ (b : Nat) (c : Cls) (n : Int), a3 = .pointer (some ⟨b, 0, none⟩) ∧ a4 = .int .i64 n ∧ w.heap.size ≤ b ∧ Blk wx b #[.int .u64 c.a, .int .u64 c.b, .int .u64 c.c, .int .u64 c.d] 38 ∧ Fr [] w wx ∧
    ParseRes (s.extract p s.size) (parseC (s.extract p s.size).data.toList) w.heap.size wx c n a5
theorem ParseRes.fr {s : ByteArray} {r : R Cls} {lo : Nat} {w w' : World} {c : Cls} {n : Int} {v : Value} {S : List Nat} (h : ParseRes s r lo w c n v) (hf : Fr S w w') (hS : ∀ k ∈ S, k < lo) : ParseRes s r lo w' c n v := by
  match r, h with
  | .ok c n, h => exact h
  | .bad k, h => exact FaultAt.fr h hf hS

theorem cmid_a {s : ByteArray} {p : Nat} {w w1 : World} {c : Cls} {n : Int} {v : Value} (F : Fr [] w.drew w1) (PR : ParseRes (s.extract p s.size) (parseC (s.extract p s.size).data.toList) w.drew.heap.size w1 c n v) :
    CMid s p w (.pointer (some ⟨w1.heap.size, 0, none⟩)) (.int .i64 n) v (w1.alloc (.cells #[.int .u64 c.a, .int .u64 c.b, .int .u64 c.c, .int .u64 c.d] 38)) := by
  have F0 : Fr [] w w1 := ⟨F.os, F.tape, F.output, F.size, F.block⟩
  have F2 : Fr [] w1 (w1.alloc (.cells #[.int .u64 c.a, .int .u64 c.b, .int .u64 c.c, .int .u64 c.d] 38)) := (Fr.refl [] w1).alloc _
  exact ⟨_, c, n, rfl, rfl, F0.size, Blk.new _ _ _, F0.trans F2 (by simp), ParseRes.fr PR F2 (by simp)⟩
theorem cmid_b {s : ByteArray} {p : Nat} {w w1 : World} {c : Cls} {n : Int} {v : Value} {cs : List Value} (hcs : cs.length = 4) (F : Fr [] (w.alloc (.cells cs.toArray 38)).drew w1)
    (PR : ParseRes (s.extract p s.size) (parseC (s.extract p s.size).data.toList) (w.alloc (.cells cs.toArray 38)).drew.heap.size w1 c n v) :
    CMid s p w (.pointer (some ⟨w.heap.size, 0, none⟩)) (.int .i64 n) v ((((w1.setCell ⟨w.heap.size, 0, none⟩ (.int .u64 c.a)).setCell ⟨w.heap.size, 1, none⟩ (.int .u64 c.b)).setCell ⟨w.heap.size, 2, none⟩ (.int .u64 c.c)).setCell ⟨w.heap.size, 3, none⟩ (.int .u64 c.d)) := by
  show CMid s p w (.pointer (some ⟨w.heap.size, 0, none⟩)) (.int .i64 n) v (put w1 w.heap.size 0 [.int .u64 c.a, .int .u64 c.b, .int .u64 c.c, .int .u64 c.d])
  have F0 : Fr [] w w1 := ((Fr.refl [] w).alloc (.cells cs.toArray 38)).drew.trans F (by simp)
  have K1 : Blk w1 w.heap.size cs.toArray 38 := Blk.fr (w := (w.alloc (.cells cs.toArray 38)).drew) (Blk.new _ _ _) F (by simp)
  have F2 : Fr [w.heap.size] w1 (put w1 w.heap.size 0 [.int .u64 c.a, .int .u64 c.b, .int .u64 c.c, .int .u64 c.d]) := Fr.put (.inl (by simp)) _ _ (Fr.refl _ w1)
  have e : (w.alloc (.cells cs.toArray 38)).drew.heap.size = w.heap.size + 1 := by show (w.alloc _).heap.size = _; simp
  rw [e] at PR
  refine ⟨_, c, n, rfl, rfl, Nat.le_refl _, K1.put_all _ (by simpa using hcs), F0.trans F2 (by simp), ?_⟩
  have := ParseRes.fr PR F2 (by simp)
  revert this
  generalize parseC (s.extract p s.size).data.toList = r
  intro h
  match r, h with
  | .ok _ _, h => exact h
  | .bad k, h => exact FaultAt.mono h (by omega)
theorem cmid_b0 {s : ByteArray} {p : Nat} {w w1 : World} {c : Cls} {n : Int} {v : Value} (F : Fr [] (w.alloc (.cells #[.int .u64 0, .int .u64 0, .int .u64 0, .int .u64 0] 38)).drew w1)
    (PR : ParseRes (s.extract p s.size) (parseC (s.extract p s.size).data.toList) (w.alloc (.cells #[.int .u64 0, .int .u64 0, .int .u64 0, .int .u64 0] 38)).drew.heap.size w1 c n v) :
    CMid s p w (.pointer (some ⟨w.heap.size, 0, none⟩)) (.int .i64 n) v ((((w1.setCell ⟨w.heap.size, 0, none⟩ (.int .u64 c.a)).setCell ⟨w.heap.size, 1, none⟩ (.int .u64 c.b)).setCell ⟨w.heap.size, 2, none⟩ (.int .u64 c.c)).setCell ⟨w.heap.size, 3, none⟩ (.int .u64 c.d)) :=
  cmid_b (cs := [.int .u64 0, .int .u64 0, .int .u64 0, .int .u64 0]) rfl F PR
theorem codeAt_extract (s : ByteArray) (p k : Nat) : codeAt (s.extract p s.size) k = (codeOf k (s.size - p) : Nat) := by
  unfold codeAt codeOf
  rw [ByteArray.size_extract, Nat.min_self]
  split <;> rfl
theorem cadd_any (B bc : Nat) (s : ByteArray) (p : Nat) (ts : List Tok) (qi : Int) (q : Nat) (hq : qi = q) (cls : Cls) (w : World) (H : Ct B bc s p ts w) (hl : ts.length ≤ 1000000) :
    Calls Tryd.prog 40 #[.pointer (some ⟨bc, 0, none⟩), .agg #[.int .i64 4, .string ⟨#[]⟩, .int .u64 cls.a, .int .u64 cls.b, .int .u64 cls.c, .int .u64 cls.d, .int .i64 0], .int .i64 qi] w
      (AddPost B bc s q (ts ++ [⟨4, [], cls, p⟩]) w) := by
  subst hq
  exact add_any B bc s p ts q 4 [] cls w H hl

set_option maxHeartbeats 8000000 in
set_option maxRecDepth 100000 in
theorem cclass_any (B bc : Nat) (s : ByteArray) (p : Nat) (ts : List Tok) (w : World) (H : Ct B bc s p ts w) (hg : Lg w) (hp : p < s.size) (hs : s.size ≤ 100000) (hts : ts.length ≤ 1000000) (r : R Cls)
    (hr : Hid (parseC (s.data.toList.drop p) = r)) :
    Calls Tryd.prog 68 #[.pointer (some ⟨bc, 0, none⟩)] w (PiecePost B bc s p ts (clsTok (s.size - p) r) w) := by
  have hBw := H.2.1
  obtain ⟨h0, h1, _⟩ := H.cells
  have h0' : ∀ o, (w.alloc o).cell? ⟨bc, 0, none⟩ = some (.string s) := fun o => (H.fr ((Fr.refl [] w).alloc o)).cells.1
  have h1' : ∀ o, (w.alloc o).cell? ⟨bc, 1, none⟩ = some (.int .i64 p) := fun o => (H.fr ((Fr.refl [] w).alloc o)).cells.2.1
  have hi0 : (0 : Int) ≤ (p : Int) := by omega
  have hi1 : (p : Int) ≤ (s.size : Int) := by omega
  have hx : (s.extract p s.size).size ≤ 100000 := by simp; omega
  go_enter Tryd.func68, Tryd.ntmps68
  go_wp2_with fail
  go_cut [3, 4, 5] from 7 to 20 (fun a3 a4 a5 wx => CMid s p w a3 a4 a5 wx)
  case first =>
    go_region_with (first
      | (go_at_call 92; refine (parse_any (s.extract p s.size) w.drew hx).mono ?_; rintro e w1 h1; obtain ⟨c1, n1, v1, rfl, F1, PR⟩ := h1.shape)
      | (go_at_call 92; refine (parse_any (s.extract p s.size) (w.alloc (.cells #[.int .u64 0, .int .u64 0, .int .u64 0, .int .u64 0] 38)).drew hx).mono ?_; rintro e w1 h1; obtain ⟨c1, n1, v1, rfl, F1, PR⟩ := h1.shape
         have K1 : Blk w1 w.heap.size #[.int .u64 0, .int .u64 0, .int .u64 0, .int .u64 0] 38 := Blk.fr (w := (w.alloc (.cells #[.int .u64 0, .int .u64 0, .int .u64 0, .int .u64 0] 38)).drew) (Blk.new _ _ _) F1 (by simp)
         have k0 := K1.cell 0 rfl
         have k1 := K1.cell 1 rfl
         have k2 := K1.cell 2 rfl
         have k3 := K1.cell 3 rfl
         have f0 := K1.free 0
         have f1 := K1.free 1
         have f2 := K1.free 2
         have f3 := K1.free 3))
  
    all_goals (go_wp2_with fail; go_meet)
    all_goals first | with_reducible exact cmid_a F1 PR | with_reducible exact cmid_b0 F1 PR
  case rest =>
    obtain ⟨b, c, n, rfl, rfl, hb, KC, FC, PR⟩ := hcut
    clear h0 h1 h0' h1'
    have H1 := H.fr FC
    have G1 := hg.fr FC (by simp)
    rw [extract_list, hr.out] at PR
    have FW : Below B w wc := FC.below.mono hBw
    have hbB : B ≤ b := by omega
    have hwB : B ≤ wc.heap.size := Nat.le_trans hBw FC.size
    have hok : Hid (∀ c n, r = .ok c n → p + n ≤ s.size) := Lib.hid (fun c n e => by
      have h := parseC_ok (hr.out.trans e)
      rw [List.length_drop] at h
      have e0 : s.data.toList.length = s.size := rfl
      omega)
    have hbad : Hid (∀ n, r = .bad n → p + n ≤ s.size + 5) := Lib.hid (fun n e => by
      have h := parseC_bad (hr.out.trans e)
      rw [List.length_drop] at h
      have e0 : s.data.toList.length = s.size := rfl
      omega)
    clear hr FC H hg
    match r, PR, hok, hbad with
    | .ok c' n', PR, hok, _ =>
      obtain ⟨hc, hn, h5⟩ := PR
      have hnb := hok.out _ _ rfl
      have hw : IntKind.i64.wrap ((p : Int) + (n' : Int)) = ((p + n' : Nat) : Int) := by
        rw [IntKind.wrap_i64]
        omega
      subst hc
      subst hn
      subst h5
      have H2 := H1.fr ((Fr.refl [] wc).alloc (.cells #[.pointer none] 62))
      have K2 := KC.alloc (.cells #[.pointer none] 62)
      have F2 := FW.trans (((Fr.refl [] wc).alloc (.cells #[.pointer none] 62)).below.mono hwB)
      clear H1 G1 KC FW
      go_wp2_with fail
      generalize wc.alloc (.cells #[.pointer none] 62) = w2 at *
      with_reducible refine (as_nil _ w2).mono ?_
      rintro e w' ⟨rfl, rfl⟩
      obtain ⟨h0, h1, _⟩ := H2.cells
      have k0 := K2.cell 0 rfl
      have k1 := K2.cell 1 rfl
      have k2 := K2.cell 2 rfl
      have k3 := K2.cell 3 rfl
      go_wp2_with fail
      go_still_tail 9, (by kernel_rfl)
      change wpList _ _ _ _ _ w2.drew
      have H2' : Ct B bc s p ts w2.drew := H2
      have F2' : Below B w w2.drew := ⟨F2.os, F2.tape, F2.output, F2.size, F2.block⟩
      clear h0 h1 k0 k1 k2 k3 H2 F2
      generalize w2.drew = w4 at *
      go_wp2_with fail
      with_reducible refine (cadd_any B bc s p ts _ (p + n') (by omega) c w4 H2' hts).mono ?_
      rintro e w3 ⟨rfl, H3, F3⟩
      go_wp2_with fail
      go_ret
      exact ⟨F2'.trans F3, rfl, H3⟩
    | .bad k, PR, _, hbad =>
      obtain ⟨a, h5, ha, KA⟩ := PR
      subst h5
      have hnb := hbad.out _ rfl
      have hw : IntKind.i64.wrap ((p : Int) + (k : Int)) = ((p + k : Nat) : Int) := by
        rw [IntKind.wrap_i64]
        omega
      rw [codeAt_extract] at KA
      have A1 := (Fr.refl [] wc).alloc (.cells #[.pointer none] 62)
      have G2 := G1.fr A1 (by simp)
      have B2 := Blk.new wc #[.pointer none] 62
      go_wp2_with fail
      generalize wc.alloc (.cells #[.pointer none] 62) = w2 at *
      with_reducible refine (asF_any ⟨a, 0, none⟩ wc.heap.size _ _ w2 G2 B2).mono ?_
      rintro e w3 ⟨rfl, FR3, B3⟩
      have A3 : Fr [] wc w3 := A1.trans FR3 (by simp)
      have H3 := H1.fr A3
      have K3 : Blk w3 a _ _ := Blk.fr KA A3 (by simp)
      have F3 := FW.trans (A3.below.mono hwB)
      have hB3 : B ≤ w3.heap.size := H3.2.1
      clear A1 G2 B2 FR3 A3 H1 KA FW G1 KC
      obtain ⟨_, h1, _⟩ := H3.cells
      have k0 := K3.cell 0 rfl
      have k1 := K3.cell 1 rfl
      have k2 := B3.cell 0 rfl
      go_wp2_with fail
      go_still_tail 13, (by kernel_rfl)
      change wpList _ _ _ _ _ w3.drew
      have F3' : Below B w w3.drew := ⟨F3.os, F3.tape, F3.output, F3.size, F3.block⟩
      have hB3' : B ≤ w3.drew.heap.size := hB3
      clear k0 k1 k2 h1 H3 K3 F3 hB3 B3
      generalize w3.drew = w5 at *
      go_wp2_with fail
      with_reducible refine (fault_any (codeOf k (s.size - p) : Nat) ((p : Int) + (k : Int)) w5).mono ?_
      rintro e w4 ⟨v, rfl, HF, F4⟩
      go_wp2_with fail
      go_ret
      rw [show (p : Int) + (k : Int) = ((p + k : Nat) : Int) from by omega] at HF
      exact ⟨F3'.trans (F4.below.mono hB3'), v, rfl, FaultAt.mono HF hB3'⟩
end Go.Proofs.YtglknnncpaggpaaDoor
