/- The reader: must, joined. -/
import Derived.Test.YtglknnncpaggpaaDoorSynA
namespace Go.Proofs.YtglknnncpaggpaaDoor
open Go.RowKit

set_option maxHeartbeats 4000000 in
theorem smust_ok (br g : Nat) (l : List Tok) (d : Nat) (kind : Int) (kn : Nat) (hkn : kind = kn) (w : World) (H : Rdr w br g l d) (hl : Ends l) (hk : (hd l).kind = kn) (hn : kn ≠ 6) :
    Calls Tryd.prog 24 #[.pointer (some ⟨br, 0, none⟩), .int .i64 kind] w (NextPost br g l d w) := by
  subst hkn
  have hi0 : (0 : Int) < (l.length : Int) := by have := hl.len; omega
  obtain ⟨hbr, hg⟩ := H.lt
  have hb : (((hd l).kind : Int) == (kn : Int)) = true := by rw [hk]; simp
  have HK : Hid ((hd l).kind ≠ 6) := Lib.hid (by omega)
  clear hk hn
  go_enter Tryd.func24, Tryd.ntmps24
  go_upto_region 1 with fail
  obtain ⟨w1, b1, e1, e2, F1, B1, S1⟩ := alloc_new w #[.int .i64 0, .string ⟨#[]⟩, .int .u64 0, .int .u64 0, .int .u64 0, .int .u64 0, .int .i64 0] 40
  have H1 := H.fr0 F1
  rw [e1, e2.out]
  clear e1 H
  have hbb : b1 ≠ br := by have := e2.out; omega
  have CN := Lib.hid (snext_any br g l d w1 H1 hl HK.out)
  obtain ⟨o, cap, H1⟩ := H1
  obtain ⟨c0, c1, c2, c3, c4, c5, c6⟩ := H1.head hl.len
  have r0 := Blk.cell H1.1 0 rfl
  go_wp2_with fail
  with_reducible refine CN.out.mono ?_
  rintro e w2 ⟨rfl, F2, H2⟩
  have B2 := B1.fr F2 (by simpa using hbb)
  obtain ⟨z0, z1, z2, z3, z4, z5, z6⟩ := B2.c7
  have f0 := B2.free
  clear c0 c1 c2 c3 c4 c5 c6 r0
  simp only [Tok.val]
  go_wp2_with fail
  clear z0 z1 z2 z3 z4 z5 z6 f0
  change bodyPost _ _ _ _ _ (put w2 b1 0 [.int .i64 (hd l).kind, .string ⟨(hd l).text.toArray⟩, .int .u64 (hd l).cls.a, .int .u64 (hd l).cls.b, .int .u64 (hd l).cls.c, .int .u64 (hd l).cls.d, .int .i64 (hd l).at_])
  obtain ⟨w4, e7, F4, B4, S4⟩ := put_new B2 [.int .i64 (hd l).kind, .string ⟨(hd l).text.toArray⟩, .int .u64 (hd l).cls.a, .int .u64 (hd l).cls.b, .int .u64 (hd l).cls.c, .int .u64 (hd l).cls.d, .int .i64 (hd l).at_] rfl
  rw [e7]
  obtain ⟨k0, k1, k2, k3, k4, k5, k6⟩ := B4.c7
  have FF : Fr [br] w w4 := ((F1.mono (T := [br]) (by simp)).trans F2 (by simp)).trans F4 (by have := e2.out; simp; omega)
  have hbg : g ≠ b1 := by have := e2.out; omega
  have H4 := H2.fr F4 (by simpa using Ne.symm hbb) (by simpa using hbg)
  exact bodyPost_ret (v := (hd l).val) (by simp [results, Tryd.results24, go_sem, k0, k1, k2, k3, k4, k5, k6, Tok.val]) rfl ⟨rfl, FF, H4⟩

set_option maxHeartbeats 4000000 in
theorem smust_no (br g : Nat) (l : List Tok) (d : Nat) (kind : Int) (kn : Nat) (hkn : kind = kn) (w : World) (H : Rdr w br g l d) (hl : Ends l) (hk : (hd l).kind ≠ kn) :
    Calls Tryd.prog 24 #[.pointer (some ⟨br, 0, none⟩), .int .i64 kind] w (StopPost (wrongCode l) (hd l).at_ w) := by
  subst hkn
  have hi0 : (0 : Int) < (l.length : Int) := by have := hl.len; omega
  have hb : (((hd l).kind : Int) == (kn : Int)) = false := by rw [beq_eq_false_iff_ne]; omega
  clear hk
  go_enter Tryd.func24, Tryd.ntmps24
  go_upto_region 1 with fail
  obtain ⟨w1, b1, e1, e2, F1, B1, S1⟩ := alloc_new w #[.int .i64 0, .string ⟨#[]⟩, .int .u64 0, .int .u64 0, .int .u64 0, .int .u64 0, .int .i64 0] 40
  have H1 := H.fr0 F1
  rw [e1, e2.out]
  clear e1 H
  have CN := Lib.hid (swrong_any br g l d w1 H1 hl)
  obtain ⟨o, cap, H1⟩ := H1
  obtain ⟨c0, c1, c2, c3, c4, c5, c6⟩ := H1.head hl.len
  have r0 := Blk.cell H1.1 0 rfl
  go_wp2_with fail
  with_reducible refine CN.out.mono ?_
  rintro e w2 HS
  obtain ⟨F2, b, rfl, h2, h3⟩ := HS.pre F1
  go_wp2_with fail
  exact ⟨rfl, F2, b, rfl, h2, h3⟩

/-! ### joined -/
def NodePost (t : Tree) (ok : Nat → Prop) (w : World) (e : Ending) (w' : World) : Prop := ∃ cs, e = .returned (.agg cs.toArray) ∧ Fr [] w w' ∧ NodeAt w' ok t cs
theorem NodeAt.fr {S : List Nat} {w w' : World} {ok : Nat → Prop} {t : Tree} {cs : List Value} (h : NodeAt w ok t cs) (hf : Fr S w w') (hS : ∀ b ∈ S, ¬ ok b) : NodeAt w' ok t cs :=
  NodeAt.keep (fun b hb hlt => hf.block b hlt (fun hm => hS b hm hb)) t cs h
theorem RowAt.fr {S : List Nat} {w w' : World} {ok : Nat → Prop} {ts : List Tree} {xs : List Value} (h : RowAt w ok ts xs) (hf : Fr S w w') (hS : ∀ b ∈ S, ¬ ok b) : RowAt w' ok ts xs :=
  RowAt.keep (fun b hb hlt => hf.block b hlt (fun hm => hS b hm hb)) ts xs h
theorem Slc.fr {S : List Nat} {w w' : World} {ok : Nat → Prop} {e : TypeId} {size : Nat} {v : Value} {n : Nat} {xs : List Value} (h : Slc w ok e size v n xs) (hf : Fr S w w') (hS : ∀ b ∈ S, ¬ ok b) : Slc w' ok e size v n xs :=
  Slc.keep h (fun b hb hlt => hf.block b hlt (fun hm => hS b hm hb))

/-- The cells of a slice's elements, in memory. -/
theorem Slc.cell {w : World} {ok : Nat → Prop} {e : TypeId} {size : Nat} {v : Value} {n : Nat} {xs : List Value} (h : Slc w ok e size v n xs) (hn : 0 < n) :
    ∃ g cap, v = .slice (some ⟨g, 0, none⟩) n cap ∧ ok g ∧ g < w.heap.size ∧ n ≤ cap ∧ cap ≤ maxLen ∧ ∀ i, i < n * size → w.cell? ⟨g, i, none⟩ = xs[i]? := by
  rcases h.2 with ⟨_, h0⟩ | ⟨g, cap, cur, h1, h2, h3, h4, h5, h6, h7⟩
  · omega
  · refine ⟨g, cap, h1, h2, (Array.getElem?_eq_some_iff.1 h3).1, h4, h5, fun i hi => ?_⟩
    rw [← h7, List.getElem?_take_of_lt hi]
    simp [World.cell?, h3]
/-- A row's first tree. -/
theorem RowAt.head {w : World} {ok : Nat → Prop} {t : Tree} {ts : List Tree} {xs : List Value} (h : RowAt w ok (t :: ts) xs) : NodeAt w ok t (xs.take 8) := by unfold RowAt at h; exact h.1
theorem NodeAt.shape {w : World} {ok : Nat → Prop} {t : Tree} {cs : List Value} (h : NodeAt w ok t cs) :
    ∃ sp sn sc, cs = [.int .i64 t.kind, .string ⟨t.text.toArray⟩, .int .u64 t.cls.a, .int .u64 t.cls.b, .int .u64 t.cls.c, .int .u64 t.cls.d, .slice sp sn sc, .int .i64 t.at_] := by
  cases t
  unfold NodeAt at h
  obtain ⟨lv, xs, h, hs, _⟩ := h
  rcases hs.2 with ⟨rfl, _⟩ | ⟨g, cap, cur, rfl, _⟩
  · exact ⟨_, _, _, h⟩
  · exact ⟨_, _, _, h⟩
theorem eight {xs : List Value} {v0 v1 v2 v3 v4 v5 v6 v7 : Value} (h : xs.take 8 = [v0, v1, v2, v3, v4, v5, v6, v7]) : xs[0]? = some v0 ∧ xs[1]? = some v1 ∧ xs[2]? = some v2 ∧ xs[3]? = some v3 ∧ xs[4]? = some v4 ∧ xs[5]? = some v5 ∧ xs[6]? = some v6 ∧ xs[7]? = some v7 := by
  have e : ∀ i, i < 8 → xs[i]? = [v0, v1, v2, v3, v4, v5, v6, v7][i]? := fun i hi => by rw [← h, List.getElem?_take_of_lt hi]
  exact ⟨e 0 (by decide), e 1 (by decide), e 2 (by decide), e 3 (by decide), e 4 (by decide), e 5 (by decide), e 6 (by decide), e 7 (by decide)⟩

set_option maxHeartbeats 4000000 in
theorem joined_any (kind : Int) (kn : Nat) (hkn : kind = kn) (t : Tree) (ts : List Tree) (lv : Value) (xs : List Value) (ok : Nat → Prop) (w : World) (H : Slc w ok 43 8 lv (ts.length + 1) xs) (HR : RowAt w ok (t :: ts) xs) :
    Calls Tryd.prog 45 #[.int .i64 kind, lv] w (NodePost (joinedP kn (t :: ts)) ok w) := by
  subst hkn
  obtain ⟨gl, cap, rfl, hok, hlt, hcap, hcap2, hc⟩ := H.cell (by omega)
  obtain ⟨sp, sn, sc, hsh⟩ := HR.head.shape
  obtain ⟨x0, x1, x2, x3, x4, x5, x6, x7⟩ := eight hsh
  go_enter Tryd.func45, Tryd.ntmps45
  go_upto_region 1 with fail
  obtain ⟨w1, b1, e1, e2, F1, B1, S1⟩ := alloc_new w #[.int .i64 0, .string ⟨#[]⟩, .int .u64 0, .int .u64 0, .int .u64 0, .int .u64 0, .slice none 0 0, .int .i64 0] 43
  rw [e1, e2.out]
  clear e1
  have H1 := H.fr F1 (by simp)
  obtain ⟨gl', cap', hv, _, _, _, _, hc1⟩ := H1.cell (by omega)
  obtain ⟨rfl, rfl⟩ : gl = gl' ∧ cap = cap' := by injection hv with h1 h2 h3; injection h1 with h1; injection h1 with h1; exact ⟨h1, h3⟩
  have c0 : w1.cell? ⟨gl, 0, none⟩ = _ := (hc1 0 (by omega)).trans x0
  have c1 : w1.cell? ⟨gl, 1, none⟩ = _ := (hc1 1 (by omega)).trans x1
  have c2 : w1.cell? ⟨gl, 2, none⟩ = _ := (hc1 2 (by omega)).trans x2
  have c3 : w1.cell? ⟨gl, 3, none⟩ = _ := (hc1 3 (by omega)).trans x3
  have c4 : w1.cell? ⟨gl, 4, none⟩ = _ := (hc1 4 (by omega)).trans x4
  have c5 : w1.cell? ⟨gl, 5, none⟩ = _ := (hc1 5 (by omega)).trans x5
  have c6 : w1.cell? ⟨gl, 6, none⟩ = _ := (hc1 6 (by omega)).trans x6
  have c7 : w1.cell? ⟨gl, 7, none⟩ = _ := (hc1 7 (by omega)).trans x7
  obtain ⟨z0, z1, z2, z3, z4, z5, z6, z7⟩ := B1.c8
  have f0 := B1.free
  have HH := Lib.hid hsh
  clear hv hc hc1 x0 x1 x2 x3 x4 x5 x6 x7 hsh
  cases ts with
  | nil =>
    go_wp2_with fail
    clear c0 c1 c2 c3 c4 c5 c6 c7 z0 z1 z2 z3 z4 z5 z6 z7 f0
    change bodyPost _ _ _ _ _ (put w1 b1 0 [.int .i64 t.kind, .string ⟨t.text.toArray⟩, .int .u64 t.cls.a, .int .u64 t.cls.b, .int .u64 t.cls.c, .int .u64 t.cls.d, .slice sp sn sc, .int .i64 t.at_])
    obtain ⟨w4, e7, F4, B4, S4⟩ := put_new B1 [.int .i64 t.kind, .string ⟨t.text.toArray⟩, .int .u64 t.cls.a, .int .u64 t.cls.b, .int .u64 t.cls.c, .int .u64 t.cls.d, .slice sp sn sc, .int .i64 t.at_] rfl
    rw [e7]
    obtain ⟨k0, k1, k2, k3, k4, k5, k6, k7⟩ := B4.c8
    have FF : Fr [] w w4 := F1.trans F4 (by have := e2.out; simp; omega)
    refine bodyPost_ret (v := .agg [.int .i64 t.kind, .string ⟨t.text.toArray⟩, .int .u64 t.cls.a, .int .u64 t.cls.b, .int .u64 t.cls.c, .int .u64 t.cls.d, .slice sp sn sc, .int .i64 t.at_].toArray) (by simp [results, Tryd.results45, go_sem, k0, k1, k2, k3, k4, k5, k6, k7]) rfl ⟨_, rfl, FF, ?_⟩
    have h9 := HR.head.fr FF (by simp)
    rw [HH.out] at h9
    exact h9

  | cons u us =>
    have hb : (((us.length + 1 + 1 : Nat) : Int) == 1) = false := by rw [beq_eq_false_iff_ne]; omega
    have hi0 : (0 : Int) < ((us.length + 1 + 1 : Nat) : Int) := by omega
    simp only [List.length_cons]
    go_wp2_with fail
    clear c0 c1 c2 c3 c4 c5 c6 c7 z0 z1 z2 z3 z4 z5 z6 z7 f0
    change bodyPost _ _ _ _ _ (put w1 b1 0 [.int .i64 kn, .string ⟨#[]⟩, .int .u64 0, .int .u64 0, .int .u64 0, .int .u64 0, .slice (some ⟨gl, 0, none⟩) ((us.length + 1) + 1) cap, .int .i64 t.at_])
    obtain ⟨w4, e7, F4, B4, S4⟩ := put_new B1 [.int .i64 kn, .string ⟨#[]⟩, .int .u64 0, .int .u64 0, .int .u64 0, .int .u64 0, .slice (some ⟨gl, 0, none⟩) ((us.length + 1) + 1) cap, .int .i64 t.at_] rfl
    rw [e7]
    obtain ⟨k0, k1, k2, k3, k4, k5, k6, k7⟩ := B4.c8
    have FF : Fr [] w w4 := F1.trans F4 (by have := e2.out; simp; omega)
    refine bodyPost_ret (v := .agg [.int .i64 kn, .string ⟨#[]⟩, .int .u64 0, .int .u64 0, .int .u64 0, .int .u64 0, .slice (some ⟨gl, 0, none⟩) ((us.length + 1) + 1) cap, .int .i64 t.at_].toArray) (by simp [results, Tryd.results45, go_sem, k0, k1, k2, k3, k4, k5, k6, k7]) rfl ⟨_, rfl, FF, ?_⟩
    unfold joinedP NodeAt
    exact ⟨_, xs, rfl, H.fr FF (by simp), HR.fr FF (by simp)⟩

end Go.Proofs.YtglknnncpaggpaaDoor
