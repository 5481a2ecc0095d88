/- revetmentlaw11.same: a map that holds a list is the list's. -/
import Derived.Test.YtcgafnmpfdkfoaaIter3
import Derived.Test.YtcgafnmpfdkfoaaRefIn
import Derived.Test.YtcgafnmpfdkfoaaRound
import Derived.Test.YtcgafnmpfdkfoaaMap5
import Derived.Test.YtcgafnmpfdkfoaaOver1
namespace Go.Proofs.Ytcgafnmpfdkfoaa
open Go.RowKit Go.Shelf

attribute [local go_sem] Oper.semAt_some

def sc (pre : List (Nat × E)) (s : Int) : Int := states (pre.map (·.2)) s
theorem sc_snoc (pre : List (Nat × E)) (x : Nat × E) (s : Int) : sc (pre ++ [x]) s = sc pre s + if x.2.st = s then 1 else 0 := by
  unfold sc states
  rw [List.map_append, List.countP_append]
  by_cases h : x.2.st = s <;> simp [h]
theorem sc_enum (l : List E) (s : Int) : sc (enum l) s = states l s := by
  unfold sc
  congr 1
  unfold enum
  rw [List.map_map]
  apply List.ext_getElem
  · simp
  · intro i h1 h2
    simp [List.getD_eq_getElem?_getD, h2]

theorem cnt_insOf (l : List E) (z : Int) : ((insOf z (enum l)).length : Int) = cnt l z := by
  unfold insOf cnt enum
  rw [List.length_map, ← List.countP_eq_length_filter, List.countP_map]
  have : l.countP (E.has z) = (List.range l.length).countP (fun i => (l.getD i E0).has z) := by
    conv => lhs; rw [show l = (List.range l.length).map (fun i => l.getD i E0) by
      apply List.ext_getElem
      · simp
      · intro i h1 h2; simp [List.getD_eq_getElem?_getD, h1]]
    rw [List.countP_map]
    rfl
  rw [this]
  rfl
theorem live_any (w : World) (p bl bv : Nat) (g : G) (l : List E) (lv : List Int) (h : MapAt w p bl bv g l lv) (hO : MapOk g l lv) (z : Int) :
    Calls Try.prog 28 #[.pointer (some ⟨p, 0, none⟩), .int .i64 z] w fun r w' => r = .returned (.int .i64 ((insOf z (enum l)).length)) ∧ w = w' := by
  rw [cnt_insOf]
  by_cases hz : 0 ≤ z ∧ z < g.all
  · rw [← hO.live z hz.1 hz.2]
    exact map_live w p bl bv g l lv h z hz.1 (by rw [hO.lvlen]; exact hz.2)
  · have : cnt l z = 0 := by
      unfold cnt
      have : l.countP (E.has z) = 0 := by
        rw [List.countP_eq_zero]
        intro e he hh
        simp only [E.has, decide_eq_true_eq] at hh
        have := E.right_lives (hO.all e he) hh.1
        omega
      rw [this]; rfl
    rw [this]
    exact map_live_no w p bl bv g l lv h z (by have := hO.lvlen; omega)
theorem states3 {g : G} {l : List E} {lv : List Int} (hO : MapOk g l lv) : states l 3 = 0 := by
  unfold states
  have : l.countP (fun e => decide (e.st = 3)) = 0 := by
    rw [List.countP_eq_zero]
    intro e he hh
    simp only [decide_eq_true_eq] at hh
    have := E.right_zero (hO.all e he) (by omega)
    omega
  rw [this]; rfl
/-- What a slice of numbers is. -/
theorem Nums.open {n₀ : Nat} {w : World} {v : Value} {xs : List Nat} (h : Nums n₀ w v xs) : ∃ a c, v = .slice a xs.length c ∧ (xs ≠ [] → ∃ g, a = some ⟨g, 0, none⟩ ∧ n₀ ≤ g ∧ g < w.heap.size ∧ ∀ (k : Nat) x, xs[k]? = some x → w.cell? ⟨g, k, none⟩ = some (.int .i64 x)) := by
  have h0 := h
  unfold Nums at h
  rcases h.2 with ⟨h', h''⟩ | ⟨g, c, cs, h', hb, hh, h1, h2, h3, h4⟩
  · have : xs.length = 0 := h''
    exact ⟨none, 0, by rw [h', this], fun hne => absurd (List.length_eq_zero_iff.1 this) hne⟩
  · refine ⟨some ⟨g, 0, none⟩, c, h', fun _ => ⟨g, rfl, hb, (Blk.lt (t := 3) (cs := cs) hh), fun k x hx => ?_⟩⟩
    subst h'
    have hk := (List.getElem?_eq_some_iff.1 hx).1
    rw [World.ownsRow.cellAt h0 k (by omega)]
    simp [nats, hx]

/-- What a cell holds. -/
def cellV (b : Nat) (w : World) : Value := (w.cell? ⟨b, 0, none⟩).getD undef
theorem cellV_some {b : Nat} {w : World} {v : Value} (h : w.cell? ⟨b, 0, none⟩ = some v) : w.cell? ⟨b, 0, none⟩ = some (cellV b w) := by rw [h]; simp [cellV, h]
theorem cell_other {w : World} {b b' o : Nat} {u x : Value} (hne : ¬ b = b') (h : w.cell? ⟨b', o, none⟩ = some x) : (w.setCell ⟨b, 0, none⟩ u).cell? ⟨b', o, none⟩ = some x :=
  ((Keeps.refl (b' + 1) [b] w).setCell ⟨b, 0, none⟩ u (.inl (by simp))).cell b' o (by omega) (by simp; omega) |>.trans h

/-- What lies in same's own blocks. -/
structure SameS (p b len c N N1 N2 N3 N4 : Nat) (n s0 s1 s2 : Int) (W : World) : Prop where
  b0 : Blk W N 26 #[.pointer (some ⟨p, 0, none⟩)]
  b1 : Blk W N1 44 #[.slice (some ⟨b, 0, none⟩) len c]
  b2 : Blk W N2 4 #[.bool false]
  b3 : Blk W N3 3 #[.int .i64 n]
  b4 : Blk W N4 153 #[.int .i64 s0, .int .i64 s1, .int .i64 s2]
theorem SameS.keeps {p b len c N N1 N2 N3 N4 : Nat} {n s0 s1 s2 : Int} {W W' : World} {B : Nat} {S : List Nat} (h : SameS p b len c N N1 N2 N3 N4 n s0 s1 s2 W) (k : Keeps B S W W') (h0 : N < B ∧ N ∉ S) (h1 : N1 < B ∧ N1 ∉ S) (h2 : N2 < B ∧ N2 ∉ S) (h3 : N3 < B ∧ N3 ∉ S) (h4 : N4 < B ∧ N4 ∉ S) :
    SameS p b len c N N1 N2 N3 N4 n s0 s1 s2 W' :=
  ⟨k.blk h0.1 h0.2 h.b0, k.blk h1.1 h1.2 h.b1, k.blk h2.1 h2.2 h.b2, k.blk h3.1 h3.2 h.b3, k.blk h4.1 h4.2 h.b4⟩

theorem SameS.set4 {p b len c N N1 N2 N3 N4 : Nat} {n s0 s1 s2 : Int} {W : World} (h : SameS p b len c N N1 N2 N3 N4 n s0 s1 s2 W) (hN : N < N1 ∧ N1 < N2 ∧ N2 < N3 ∧ N3 < N4) (i : Nat) (u t0 t1 t2 : Int)
    (hi : (#[.int .i64 s0, .int .i64 s1, .int .i64 s2] : Array Value).setIfInBounds i (.int .i64 u) = #[.int .i64 t0, .int .i64 t1, .int .i64 t2]) : SameS p b len c N N1 N2 N3 N4 n t0 t1 t2 (W.setCell ⟨N4, i, none⟩ (.int .i64 u)) := by
  have k : Keeps (N4 + 1) [N4] W (W.setCell ⟨N4, i, none⟩ (.int .i64 u)) := (Keeps.refl _ _ _).setCell _ _ (.inl (by simp))
  exact ⟨k.blk (by omega) (by simp; omega) h.b0, k.blk (by omega) (by simp; omega) h.b1, k.blk (by omega) (by simp; omega) h.b2, k.blk (by omega) (by simp; omega) h.b3, hi ▸ h.b4.set_ i _⟩
theorem SameS.set3 {p b len c N N1 N2 N3 N4 : Nat} {n s0 s1 s2 : Int} {W : World} (h : SameS p b len c N N1 N2 N3 N4 n s0 s1 s2 W) (hN : N < N1 ∧ N1 < N2 ∧ N2 < N3 ∧ N3 < N4) (u : Int) : SameS p b len c N N1 N2 N3 N4 u s0 s1 s2 (W.setCell ⟨N3, 0, none⟩ (.int .i64 u)) := by
  have k : Keeps (N4 + 1) [N3] W (W.setCell ⟨N3, 0, none⟩ (.int .i64 u)) := (Keeps.refl _ _ _).setCell _ _ (.inl (by simp))
  exact ⟨k.blk (by omega) (by simp; omega) h.b0, k.blk (by omega) (by simp; omega) h.b1, k.blk (by omega) (by simp; omega) h.b2, h.b3.set_ 0 _, k.blk (by omega) (by simp; omega) h.b4⟩
theorem sc_range (pre : List (Nat × E)) (s : Int) : 0 ≤ sc pre s ∧ sc pre s ≤ pre.length := by
  unfold sc states
  have := List.countP_le_length (p := fun e => decide (E.st e = s)) (l := pre.map (·.2))
  rw [List.length_map] at this
  omega

set_option maxRecDepth 100000 in
set_option maxHeartbeats 4000000 in
theorem same_true (w : World) (p bl bv : Nat) (g : G) (l : List E) (lv : List Int) (hM : MapAt w p bl bv g l lv) (hO : MapOk g l lv) (b c : Nat) (hb : b < w.heap.size) (he : ∀ i e, l[i]? = some e → EntReads w b i e) (z : Int) :
    Calls Try.prog 36 #[.pointer (some ⟨p, 0, none⟩), .slice (some ⟨b, 0, none⟩) l.length c, .int .i64 z] w fun r w' => r = .returned (.bool true) ∧ Below w.heap.size w w' := by
  have hz : l.length ≤ 1000 := by have := hO.len; have := (G.small_of_right hO.right).B1; omega
  have hML := hM.lt
  obtain ⟨N1, hN1⟩ : ∃ N1, w.heap.size + 1 = N1 := ⟨_, rfl⟩
  obtain ⟨N2, hN2⟩ : ∃ N2, N1 + 1 = N2 := ⟨_, rfl⟩
  obtain ⟨N3, hN3⟩ : ∃ N3, N2 + 1 = N3 := ⟨_, rfl⟩
  obtain ⟨N4, hN4⟩ : ∃ N4, N3 + 1 = N4 := ⟨_, rfl⟩
  obtain ⟨N5, hN5⟩ : ∃ N5, N4 + 1 = N5 := ⟨_, rfl⟩
  obtain ⟨W0, hW0⟩ : ∃ W0, (((((w.alloc (.cells #[.pointer (some ⟨p, 0, none⟩)] 26)).alloc (.cells #[.slice (some ⟨b, 0, none⟩) l.length c] 44)).alloc (.cells #[.bool false] 4)).alloc (.cells #[.int .i64 0] 3)).alloc (.cells #[.int .i64 0, .int .i64 0, .int .i64 0] 153)) = W0 := ⟨_, rfl⟩
  have hs0 : W0.heap.size = N5 := by rw [← hW0]; simp; omega
  have hB0 : Below w.heap.size w W0 := by
    rw [← hW0]
    exact (((((Below.refl _ _).alloc (Nat.le_refl _) _).alloc (by simp) _).alloc (by simp <;> omega) _).alloc (by simp <;> omega) _).alloc (by simp <;> omega) _
  have hS0 : SameS p b l.length c w.heap.size N1 N2 N3 N4 0 0 0 0 W0 := by
    rw [← hW0]
    refine ⟨?_, ?_, ?_, ?_, ?_⟩ <;> repeat (first | (refine Blk.newAt ?_; (try simp); (try omega); done) | refine Blk.alloc ?_ _)
  have hM0 : MapAt W0 p bl bv g l lv := hM.below hB0 hML.1 hML.2.1 hML.2.2
  have hcall := map_all_made W0 p bl bv g l lv hM0
  rw [hs0] at hcall
  have HW0 := Lib.hid hW0
  have HN := Lib.hid (And.intro hN1 (And.intro hN2 (And.intro hN3 (And.intro hN4 hN5))))
  clear hW0 hN1 hN2 hN3 hN4 hN5
  refine (callsIn_wide (n := 0)).1 ?_
  refine callsIn_of_wp_marks Try.func36 rfl trivial ?_ rfl
  simp only [Try.ntmps36, List.size_toArray, List.length_cons, List.length_nil, Nat.reduceAdd, Nat.reduceSub, Array.replicate_succ, Array.replicate_zero, List.push_toArray, List.append_toArray, List.nil_append, List.cons_append]
  gi_wp2
  refine ⟨trivial, rfl, ?_⟩
  rw [HW0.out]
  obtain ⟨hN1, hN2, hN3, hN4, hN5⟩ := HN.out
  simp only [hN1, hN2, hN3, hN4]
  refine CallsIn.mono (callsIn_wide.2 hcall) ?_
  clear hcall
  rintro r w2 ⟨rfl, hb2, hs2, hc2⟩
  gi_wp2
  have hbl5 : bl < N5 := by omega
  have hbS : bl ∉ [N3, N4] := by simp; omega
  have hit := MapAt.iter hM0 hz (w' := w2) (by rw [hs0]; exact hb2) (by rw [hs0]; exact hs2) (by rw [hs0]; exact hc2) [N3, N4] hbS
  rw [hs0] at hit
  refine range_run (gf := 139) (lb := #[.pointer (some ⟨N5, 0, none⟩)]) (encs := fun x : Nat × E => #[.int .i64 x.1, x.2.v]) (xs := enum l) (S := [N3, N4]) rfl (enters_of Try.func139 (by kernel_rfl) rfl) hit ?hS (fun _ => rfl)
    (fun pre W2 => SameS p b l.length c w.heap.size N1 N2 N3 N4 pre.length (sc pre 0) (sc pre 1) (sc pre 2) W2 ∧ Below w.heap.size w W2 ∧ N5 < W2.heap.size) ?hI ?h0 ?hround ?hdone
  case hS => simp; omega
  case hI =>
    rintro s X Y ⟨a, b, d⟩ hb
    have hsb := hb.size
    exact ⟨a.keeps (Keeps.of_below (S := []) hb) (by simp; omega) (by simp; omega) (by simp; omega) (by simp; omega) (by simp; omega), b.trans (hb.mono (by omega)), by omega⟩
  case h0 => exact ⟨hS0.keeps (Keeps.of_below (S := []) hb2) (by simp; omega) (by simp; omega) (by simp; omega) (by simp; omega) (by simp; omega), hB0.trans (hb2.mono (by omega)), hs2⟩
  case hround =>
    rintro m l' pre ⟨k, e⟩ rest V rfl hx ⟨hI1, hB1, hz1⟩ hlt1
    obtain ⟨x1, x2, x3⟩ := enum_at hx
    dsimp only at x1 x2
    subst x1
    have hkl := (List.getElem?_eq_some_iff.1 x2).1
    clear x3 hx
    gi_wp2
    refine ⟨below_box _ _, fun V2 kv hsv => ?_⟩
    rw [World.size_alloc] at kv hsv
    have hI2 : SameS p b l.length c w.heap.size N1 N2 N3 N4 pre.length (sc pre 0) (sc pre 1) (sc pre 2) V2 :=
      (hI1.keeps (Keeps.of_below (S := []) (below_box V e.box)) (by simp; omega) (by simp; omega) (by simp; omega) (by simp; omega) (by simp; omega)).keeps kv (by simp; omega) (by simp; omega) (by simp; omega) (by simp; omega) (by simp; omega)
    have hE2 : Blk V2 V.heap.size 31 e.arr := kv.blk (by omega) (by simp; omega) (Blk.newAt rfl)
    have hB2 : Below w.heap.size w V2 := (hB1.alloc (by omega) e.box).trans (Keeps.below (kv.mono (by omega) (fun i hi => hi)) (by simp; omega))
    have hM2 := hM.below hB2 hML.1 hML.2.1 hML.2.2
    have hR2 : EntReads V2 b pre.length e := by
      obtain ⟨a0, a1, a2, a3, a4, a5⟩ := he _ e x2
      have k : ∀ o, V2.cell? ⟨b, o, none⟩ = w.cell? ⟨b, o, none⟩ := fun o => hB2.cell (p := ⟨b, o, none⟩) hb
      exact ⟨(k _).trans a0, (k _).trans a1, (k _).trans a2, (k _).trans a3, (k _).trans a4, (k _).trans a5⟩
    have her := hO.all e (List.mem_of_getElem? x2)
    have hst : e.st = 0 ∨ e.st = 1 ∨ e.st = 2 := by
      by_cases h1 : e.st = 1
      · exact .inr (.inl h1)
      · have := (E.right_zero her h1).1; omega
    have n0 : w.heap.size < V2.heap.size := by omega
    have n1 : N1 < V2.heap.size := by omega
    have n3 : N3 < V2.heap.size := by omega
    have n4 : N4 < V2.heap.size := by omega
    have nb : b < V2.heap.size := by omega
    have nv : V.heap.size < V2.heap.size := by omega
    have HN' : Hid (w.heap.size < N1 ∧ N1 < N2 ∧ N2 < N3 ∧ N3 < N4) := ⟨by omega, by omega, by omega, by omega⟩
    have hd : decide (l.length ≤ pre.length) = false := by simp; omega
    have hfrom := @From.cell V2
    have c0 : V2.cell? ⟨w.heap.size, 0, none⟩ = some (.pointer (some ⟨p, 0, none⟩)) := by rw [hI2.b0.cell]; rfl
    have c1 : V2.cell? ⟨N1, 0, none⟩ = some (.slice (some ⟨b, 0, none⟩) l.length c) := by rw [hI2.b1.cell]; rfl
    have c3 : V2.cell? ⟨N3, 0, none⟩ = some (.int .i64 pre.length) := by rw [hI2.b3.cell]; rfl
    obtain ⟨⟨a0, a1, a2⟩, a3, a4, a5⟩ := hE2.ent
    obtain ⟨r0, r1, r2, r3, r4, r5⟩ := hR2
    have HI2 := Lib.hid hI2
    have HE2 := Lib.hid hE2
    have HM2 := Lib.hid hM2
    have HB2 := Lib.hid hB2
    have hpl : (pre.length : Int) ≤ 1000 := by omega
    have HX2 := Lib.hid x2
    have HN5 : Hid (N4 < V.heap.size) := Lib.hid (by omega)
    have HSV := Lib.hid hsv
    have HZ := Lib.hid (And.intro hlt1 hz1)
    clear hsv hlt1 hz1
    clear hI1 hB1 hI2 hE2 hM2 hB2 her hb2 hs2 hc2 hit hM hO he kv hM0 hS0 hB0 hN1 hN2 hN3 hN4 hN5 hbS x2
    rcases hst with hst | hst | hst
    · have q0 : V2.cell? ⟨N4, 0, none⟩ = some (.int .i64 (sc pre 0)) := by rw [HI2.out.b4.cell]; rfl
      have qf : V2.frozen? ⟨N4, 0, none⟩ = false := HI2.out.b4.frozen 0
      obtain ⟨s0, s1⟩ := sc_range pre 0
      gi_wp2_with fail
      refine region_from_round (by kernel_rfl) (by kernel_rfl) (by kernel_rfl) ?_
      repeat (go_big_quiet_step (fail))
      refine wpQuiet_nil ?_
      intro W3 hb3
      have z3 := hb3.size
      have m3 := HM2.out.grow hb3
      have i3 := HI2.out.keeps (Keeps.of_below (S := []) hb3) (by simp; omega) (by simp; omega) (by simp; have := HN'.out; omega) (by simp; omega) (by simp; omega)
      have e3 : Blk W3 V.heap.size 31 e.arr := (Keeps.of_below (S := []) hb3).blk nv (by simp) HE2.out
      have k4 : Keeps W3.heap.size [N4] W3 (W3.setCell ⟨N4, 0, none⟩ (.int .i64 (sc pre 0 + 1))) := (Keeps.refl _ _ _).setCell _ _ (.inl (by simp))
      have z4 : (W3.setCell ⟨N4, 0, none⟩ (.int .i64 (sc pre 0 + 1))).heap.size = W3.heap.size := by simp
      have m4 := m3.keeps k4 (by simp; have := HN'.out; omega) (by simp; have := HN'.out; omega) (by simp; have := HN'.out; omega)
      have i4 := i3.set4 HN'.out 0 (sc pre 0 + 1) (sc pre 0 + 1) (sc pre 1) (sc pre 2) rfl
      have e4 := k4.blk (by omega) (by simp; have := HN5.out; omega) e3
      have hget := map_get _ p bl bv g l lv m4 pre.length e (by omega) (by simpa using HX2.out)
      have HK4 := Lib.hid k4
      have HI4 := Lib.hid i4
      have HE4 := Lib.hid e4
      have HZ4 := Lib.hid z4
      have HB3 := Lib.hid hb3
      have HG := Lib.hid hget
      have j4 : W3.cell? ⟨N4, 0, none⟩ = some (.int .i64 (sc pre 0)) := by rw [i3.b4.cell]; rfl
      have f4 : W3.frozen? ⟨N4, 0, none⟩ = false := i3.b4.frozen 0
      have j0 : W3.cell? ⟨w.heap.size, 0, none⟩ = some (.pointer (some ⟨p, 0, none⟩)) := by rw [i3.b0.cell]; rfl
      have jst : W3.cell? ⟨V.heap.size, 0, none⟩ = some (.int .i64 e.st) := by rw [e3.cell]; rfl
      have nn : ¬ w.heap.size = N4 := by have := HN'.out; omega
      have nn' : ¬ N4 = w.heap.size := by have := HN'.out; omega
      clear hb3 z3 m3 i3 e3 k4 z4 m4 i4 e4 hget c0 c1 c3 a0 a1 a2 a3 a4 a5 r0 r1 r2 r3 r4 r5 q0 qf hfrom
      gi_wp2
      refine ⟨trivial, wide_any, ?_⟩
      refine CallsIn.mono (CallsIn.inRound _ (callsIn_wide.2 HG.out)) ?_
      rintro r w5 ⟨rfl, hb5⟩
      have i5 := HI4.out.keeps (Keeps.of_below (S := []) hb5) (by rw [HZ4.out]; simp; have := HB3.out.size; omega) (by rw [HZ4.out]; simp; have := HB3.out.size; omega) (by rw [HZ4.out]; simp; have := HB3.out.size; have := HN'.out; omega) (by rw [HZ4.out]; simp; have := HB3.out.size; omega) (by rw [HZ4.out]; simp; have := HB3.out.size; omega)
      have z5 := hb5.size
      rw [HZ4.out] at z5
      have e5 : Blk w5 V.heap.size 31 e.arr := (Keeps.of_below (S := []) hb5).blk (by rw [HZ4.out]; have := HB3.out.size; omega) (by simp) HE4.out
      obtain ⟨⟨a0, a1, a2⟩, a3, a4, a5⟩ := e5.ent
      have c3 : w5.cell? ⟨N3, 0, none⟩ = some (.int .i64 pre.length) := by rw [i5.b3.cell]; rfl
      have f3 : w5.frozen? ⟨N3, 0, none⟩ = false := i5.b3.frozen 0
      have y1 : V.heap.size < w5.heap.size := by have := HB3.out.size; omega
      have y3 : N3 < w5.heap.size := by have := HB3.out.size; omega
      have HI5 := Lib.hid i5
      have HB5 := Lib.hid hb5
      have HZ5 := Lib.hid z5
      clear i5 hb5 z5 e5 j4 f4 j0 jst nn nn'
      gi_wp2
      have kk : Keeps V2.heap.size [N3, N4] V2 ((w5.setCell ⟨N3, 0, none⟩ (.int .i64 (pre.length + 1))).alloc (.cells #[.int .i64 0, .int .i64 e.zn, .int .i64 e.mt, .int .i64 e.off, .int .i64 e.sq, .int .i64 e.sm] 31)) :=
        ((((Keeps.of_below HB3.out).trans (HK4.out.mono HB3.out.size (by simp))).trans (Keeps.of_below (HB5.out.mono (by rw [HZ4.out]; exact HB3.out.size)))).setCell ⟨N3, 0, none⟩ (.int .i64 (pre.length + 1)) (.inl (by simp))).trans (Keeps.of_below ((below_box _ _).mono (by simp [World.setCell]; have := HB3.out.size; have := HZ5.out; omega)))
      have kz := kk.size
      refine ⟨⟨?_, HB2.out.trans (Keeps.below (kk.mono (by have := HB2.out.size; omega) (fun i hi => hi)) (by simp; have := HN'.out; omega)), by have := HSV.out; have := HZ.out; omega⟩, kk⟩
      have i6 := (HI5.out.set3 HN'.out (pre.length + 1)).keeps (Keeps.of_below (S := []) (below_box _ (.cells #[.int .i64 0, .int .i64 e.zn, .int .i64 e.mt, .int .i64 e.off, .int .i64 e.sq, .int .i64 e.sm] 31))) (by simp [World.setCell]; have := HN'.out; omega) (by simp [World.setCell]; have := HN'.out; omega) (by simp [World.setCell]; have := HN'.out; omega) (by simp [World.setCell]; have := HN'.out; omega) (by simp [World.setCell]; have := HZ5.out; have := HB3.out.size; omega)
      rw [sc_snoc, sc_snoc, sc_snoc]
      simpa [hst] using i6
    · have q0 : V2.cell? ⟨N4, 1, none⟩ = some (.int .i64 (sc pre 1)) := by rw [HI2.out.b4.cell]; rfl
      have qf : V2.frozen? ⟨N4, 1, none⟩ = false := HI2.out.b4.frozen 1
      obtain ⟨s0, s1⟩ := sc_range pre 1
      gi_wp2_with fail
      refine region_from_round (by kernel_rfl) (by kernel_rfl) (by kernel_rfl) ?_
      repeat (go_big_quiet_step (fail))
      refine wpQuiet_nil ?_
      intro W3 hb3
      have z3 := hb3.size
      have m3 := HM2.out.grow hb3
      have i3 := HI2.out.keeps (Keeps.of_below (S := []) hb3) (by simp; omega) (by simp; omega) (by simp; have := HN'.out; omega) (by simp; omega) (by simp; omega)
      have e3 : Blk W3 V.heap.size 31 e.arr := (Keeps.of_below (S := []) hb3).blk nv (by simp) HE2.out
      have k4 : Keeps W3.heap.size [N4] W3 (W3.setCell ⟨N4, 1, none⟩ (.int .i64 (sc pre 1 + 1))) := (Keeps.refl _ _ _).setCell _ _ (.inl (by simp))
      have z4 : (W3.setCell ⟨N4, 1, none⟩ (.int .i64 (sc pre 1 + 1))).heap.size = W3.heap.size := by simp
      have m4 := m3.keeps k4 (by simp; have := HN'.out; omega) (by simp; have := HN'.out; omega) (by simp; have := HN'.out; omega)
      have i4 := i3.set4 HN'.out 1 (sc pre 1 + 1) (sc pre 0) (sc pre 1 + 1) (sc pre 2) rfl
      have e4 := k4.blk (by omega) (by simp; have := HN5.out; omega) e3
      have hget := map_get _ p bl bv g l lv m4 pre.length e (by omega) (by simpa using HX2.out)
      have HK4 := Lib.hid k4
      have HI4 := Lib.hid i4
      have HE4 := Lib.hid e4
      have HZ4 := Lib.hid z4
      have HB3 := Lib.hid hb3
      have HG := Lib.hid hget
      have j4 : W3.cell? ⟨N4, 1, none⟩ = some (.int .i64 (sc pre 1)) := by rw [i3.b4.cell]; rfl
      have f4 : W3.frozen? ⟨N4, 1, none⟩ = false := i3.b4.frozen 1
      have j0 : W3.cell? ⟨w.heap.size, 0, none⟩ = some (.pointer (some ⟨p, 0, none⟩)) := by rw [i3.b0.cell]; rfl
      have jst : W3.cell? ⟨V.heap.size, 0, none⟩ = some (.int .i64 e.st) := by rw [e3.cell]; rfl
      have nn : ¬ w.heap.size = N4 := by have := HN'.out; omega
      have nn' : ¬ N4 = w.heap.size := by have := HN'.out; omega
      clear hb3 z3 m3 i3 e3 k4 z4 m4 i4 e4 hget c0 c1 c3 a0 a1 a2 a3 a4 a5 r0 r1 r2 r3 r4 r5 q0 qf hfrom
      gi_wp2
      refine ⟨trivial, wide_any, ?_⟩
      refine CallsIn.mono (CallsIn.inRound _ (callsIn_wide.2 HG.out)) ?_
      rintro r w5 ⟨rfl, hb5⟩
      have i5 := HI4.out.keeps (Keeps.of_below (S := []) hb5) (by rw [HZ4.out]; simp; have := HB3.out.size; omega) (by rw [HZ4.out]; simp; have := HB3.out.size; omega) (by rw [HZ4.out]; simp; have := HB3.out.size; have := HN'.out; omega) (by rw [HZ4.out]; simp; have := HB3.out.size; omega) (by rw [HZ4.out]; simp; have := HB3.out.size; omega)
      have z5 := hb5.size
      rw [HZ4.out] at z5
      have e5 : Blk w5 V.heap.size 31 e.arr := (Keeps.of_below (S := []) hb5).blk (by rw [HZ4.out]; have := HB3.out.size; omega) (by simp) HE4.out
      obtain ⟨⟨a0, a1, a2⟩, a3, a4, a5⟩ := e5.ent
      have c3 : w5.cell? ⟨N3, 0, none⟩ = some (.int .i64 pre.length) := by rw [i5.b3.cell]; rfl
      have f3 : w5.frozen? ⟨N3, 0, none⟩ = false := i5.b3.frozen 0
      have y1 : V.heap.size < w5.heap.size := by have := HB3.out.size; omega
      have y3 : N3 < w5.heap.size := by have := HB3.out.size; omega
      have HI5 := Lib.hid i5
      have HB5 := Lib.hid hb5
      have HZ5 := Lib.hid z5
      clear i5 hb5 z5 e5 j4 f4 j0 jst nn nn'
      gi_wp2
      have kk : Keeps V2.heap.size [N3, N4] V2 ((w5.setCell ⟨N3, 0, none⟩ (.int .i64 (pre.length + 1))).alloc (.cells #[.int .i64 1, .int .i64 e.zn, .int .i64 e.mt, .int .i64 e.off, .int .i64 e.sq, .int .i64 e.sm] 31)) :=
        ((((Keeps.of_below HB3.out).trans (HK4.out.mono HB3.out.size (by simp))).trans (Keeps.of_below (HB5.out.mono (by rw [HZ4.out]; exact HB3.out.size)))).setCell ⟨N3, 0, none⟩ (.int .i64 (pre.length + 1)) (.inl (by simp))).trans (Keeps.of_below ((below_box _ _).mono (by simp [World.setCell]; have := HB3.out.size; have := HZ5.out; omega)))
      have kz := kk.size
      refine ⟨⟨?_, HB2.out.trans (Keeps.below (kk.mono (by have := HB2.out.size; omega) (fun i hi => hi)) (by simp; have := HN'.out; omega)), by have := HSV.out; have := HZ.out; omega⟩, kk⟩
      have i6 := (HI5.out.set3 HN'.out (pre.length + 1)).keeps (Keeps.of_below (S := []) (below_box _ (.cells #[.int .i64 1, .int .i64 e.zn, .int .i64 e.mt, .int .i64 e.off, .int .i64 e.sq, .int .i64 e.sm] 31))) (by simp [World.setCell]; have := HN'.out; omega) (by simp [World.setCell]; have := HN'.out; omega) (by simp [World.setCell]; have := HN'.out; omega) (by simp [World.setCell]; have := HN'.out; omega) (by simp [World.setCell]; have := HZ5.out; have := HB3.out.size; omega)
      rw [sc_snoc, sc_snoc, sc_snoc]
      simpa [hst] using i6
    · have q0 : V2.cell? ⟨N4, 2, none⟩ = some (.int .i64 (sc pre 2)) := by rw [HI2.out.b4.cell]; rfl
      have qf : V2.frozen? ⟨N4, 2, none⟩ = false := HI2.out.b4.frozen 2
      obtain ⟨s0, s1⟩ := sc_range pre 2
      gi_wp2_with fail
      refine region_from_round (by kernel_rfl) (by kernel_rfl) (by kernel_rfl) ?_
      repeat (go_big_quiet_step (fail))
      refine wpQuiet_nil ?_
      intro W3 hb3
      have z3 := hb3.size
      have m3 := HM2.out.grow hb3
      have i3 := HI2.out.keeps (Keeps.of_below (S := []) hb3) (by simp; omega) (by simp; omega) (by simp; have := HN'.out; omega) (by simp; omega) (by simp; omega)
      have e3 : Blk W3 V.heap.size 31 e.arr := (Keeps.of_below (S := []) hb3).blk nv (by simp) HE2.out
      have k4 : Keeps W3.heap.size [N4] W3 (W3.setCell ⟨N4, 2, none⟩ (.int .i64 (sc pre 2 + 1))) := (Keeps.refl _ _ _).setCell _ _ (.inl (by simp))
      have z4 : (W3.setCell ⟨N4, 2, none⟩ (.int .i64 (sc pre 2 + 1))).heap.size = W3.heap.size := by simp
      have m4 := m3.keeps k4 (by simp; have := HN'.out; omega) (by simp; have := HN'.out; omega) (by simp; have := HN'.out; omega)
      have i4 := i3.set4 HN'.out 2 (sc pre 2 + 1) (sc pre 0) (sc pre 1) (sc pre 2 + 1) rfl
      have e4 := k4.blk (by omega) (by simp; have := HN5.out; omega) e3
      have hget := map_get _ p bl bv g l lv m4 pre.length e (by omega) (by simpa using HX2.out)
      have HK4 := Lib.hid k4
      have HI4 := Lib.hid i4
      have HE4 := Lib.hid e4
      have HZ4 := Lib.hid z4
      have HB3 := Lib.hid hb3
      have HG := Lib.hid hget
      have j4 : W3.cell? ⟨N4, 2, none⟩ = some (.int .i64 (sc pre 2)) := by rw [i3.b4.cell]; rfl
      have f4 : W3.frozen? ⟨N4, 2, none⟩ = false := i3.b4.frozen 2
      have j0 : W3.cell? ⟨w.heap.size, 0, none⟩ = some (.pointer (some ⟨p, 0, none⟩)) := by rw [i3.b0.cell]; rfl
      have jst : W3.cell? ⟨V.heap.size, 0, none⟩ = some (.int .i64 e.st) := by rw [e3.cell]; rfl
      have nn : ¬ w.heap.size = N4 := by have := HN'.out; omega
      have nn' : ¬ N4 = w.heap.size := by have := HN'.out; omega
      clear hb3 z3 m3 i3 e3 k4 z4 m4 i4 e4 hget c0 c1 c3 a0 a1 a2 a3 a4 a5 r0 r1 r2 r3 r4 r5 q0 qf hfrom
      gi_wp2
      refine ⟨trivial, wide_any, ?_⟩
      refine CallsIn.mono (CallsIn.inRound _ (callsIn_wide.2 HG.out)) ?_
      rintro r w5 ⟨rfl, hb5⟩
      have i5 := HI4.out.keeps (Keeps.of_below (S := []) hb5) (by rw [HZ4.out]; simp; have := HB3.out.size; omega) (by rw [HZ4.out]; simp; have := HB3.out.size; omega) (by rw [HZ4.out]; simp; have := HB3.out.size; have := HN'.out; omega) (by rw [HZ4.out]; simp; have := HB3.out.size; omega) (by rw [HZ4.out]; simp; have := HB3.out.size; omega)
      have z5 := hb5.size
      rw [HZ4.out] at z5
      have e5 : Blk w5 V.heap.size 31 e.arr := (Keeps.of_below (S := []) hb5).blk (by rw [HZ4.out]; have := HB3.out.size; omega) (by simp) HE4.out
      obtain ⟨⟨a0, a1, a2⟩, a3, a4, a5⟩ := e5.ent
      have c3 : w5.cell? ⟨N3, 0, none⟩ = some (.int .i64 pre.length) := by rw [i5.b3.cell]; rfl
      have f3 : w5.frozen? ⟨N3, 0, none⟩ = false := i5.b3.frozen 0
      have y1 : V.heap.size < w5.heap.size := by have := HB3.out.size; omega
      have y3 : N3 < w5.heap.size := by have := HB3.out.size; omega
      have HI5 := Lib.hid i5
      have HB5 := Lib.hid hb5
      have HZ5 := Lib.hid z5
      clear i5 hb5 z5 e5 j4 f4 j0 jst nn nn'
      gi_wp2
      have kk : Keeps V2.heap.size [N3, N4] V2 ((w5.setCell ⟨N3, 0, none⟩ (.int .i64 (pre.length + 1))).alloc (.cells #[.int .i64 2, .int .i64 e.zn, .int .i64 e.mt, .int .i64 e.off, .int .i64 e.sq, .int .i64 e.sm] 31)) :=
        ((((Keeps.of_below HB3.out).trans (HK4.out.mono HB3.out.size (by simp))).trans (Keeps.of_below (HB5.out.mono (by rw [HZ4.out]; exact HB3.out.size)))).setCell ⟨N3, 0, none⟩ (.int .i64 (pre.length + 1)) (.inl (by simp))).trans (Keeps.of_below ((below_box _ _).mono (by simp [World.setCell]; have := HB3.out.size; have := HZ5.out; omega)))
      have kz := kk.size
      refine ⟨⟨?_, HB2.out.trans (Keeps.below (kk.mono (by have := HB2.out.size; omega) (fun i hi => hi)) (by simp; have := HN'.out; omega)), by have := HSV.out; have := HZ.out; omega⟩, kk⟩
      have i6 := (HI5.out.set3 HN'.out (pre.length + 1)).keeps (Keeps.of_below (S := []) (below_box _ (.cells #[.int .i64 2, .int .i64 e.zn, .int .i64 e.mt, .int .i64 e.off, .int .i64 e.sq, .int .i64 e.sm] 31))) (by simp [World.setCell]; have := HN'.out; omega) (by simp [World.setCell]; have := HN'.out; omega) (by simp [World.setCell]; have := HN'.out; omega) (by simp [World.setCell]; have := HN'.out; omega) (by simp [World.setCell]; have := HZ5.out; have := HB3.out.size; omega)
      rw [sc_snoc, sc_snoc, sc_snoc]
      simpa [hst] using i6
  case hdone =>
    rintro D V hD ⟨hI1, hB1, hz1⟩ hK
    rw [enum_length, sc_enum, sc_enum, sc_enum] at hI1
    have hMV := hM.below hB1 hML.1 hML.2.1 hML.2.2
    have hDV : D < V.heap.size := (Array.getElem?_eq_some_iff.1 hK).1
    have hRV : ∀ i e, l[i]? = some e → EntReads V b i e := fun i e hi => by
      obtain ⟨a0, a1, a2, a3, a4, a5⟩ := he i e hi
      have k : ∀ o, V.cell? ⟨b, o, none⟩ = w.cell? ⟨b, o, none⟩ := fun o => hB1.cell (p := ⟨b, o, none⟩) hb
      exact ⟨(k _).trans a0, (k _).trans a1, (k _).trans a2, (k _).trans a3, (k _).trans a4, (k _).trans a5⟩
    have c0 : V.cell? ⟨w.heap.size, 0, none⟩ = some (.pointer (some ⟨p, 0, none⟩)) := by rw [hI1.b0.cell]; rfl
    have c1 : V.cell? ⟨N1, 0, none⟩ = some (.slice (some ⟨b, 0, none⟩) l.length c) := by rw [hI1.b1.cell]; rfl
    have HIN := Lib.hid (ref_in V b c l (by have := hB1.size; omega) hz hRV z)
    have HHit := Lib.hid hit
    have HI1 := Lib.hid hI1
    have HB1 := Lib.hid hB1
    have HMV := Lib.hid hMV
    have HK := Lib.hid hK
    have HO := Lib.hid hO
    have hs2 := hb2.size
    have HZ : Hid (w.heap.size < N1 ∧ N1 < N2 ∧ N2 < N3 ∧ N3 < N4 ∧ N4 < V.heap.size ∧ D < V.heap.size ∧ N4 < D ∧ bl < w.heap.size ∧ p < w.heap.size ∧ bv < w.heap.size) := ⟨by omega, by omega, by omega, by omega, by omega, by omega, by omega, by omega, by omega, by omega⟩
    clear hit hI1 hB1 hMV hRV hK hO hb2 hs2 hc2 hM hM0 hS0 hB0 he hML HHit hN1 hN2 hN3 hN4 hN5 hs0 hbl5 hbS hz1 hD hDV
    gi_wp2
    refine ⟨trivial, rfl, ?_⟩
    refine CallsIn.mono (callsIn_wide.2 HIN.out) ?_
    rintro r w3 ⟨hb3, v, rfl, hnums⟩
    obtain ⟨a, cw, rfl, hw⟩ := hnums.open
    have z3 := hb3.size
    have c0' := (hb3.cell (p := ⟨w.heap.size, 0, none⟩) (show w.heap.size < _ by have := HZ.out; omega)).trans c0
    clear c0 c1 HIN hnums
    have x1 : w.heap.size < w3.heap.size := by have := HZ.out; omega
    obtain ⟨M1, hM1⟩ : ∃ M1, w3.heap.size + 1 = M1 := ⟨_, rfl⟩
    obtain ⟨M2, hM2⟩ : ∃ M2, M1 + 1 = M2 := ⟨_, rfl⟩
    obtain ⟨M3, hM3⟩ : ∃ M3, M2 + 1 = M3 := ⟨_, rfl⟩
    have HM := Lib.hid (And.intro hM1 (And.intro hM2 hM3))
    clear hM1 hM2 hM3
    gi_wp2
    refine ⟨trivial, rfl, ?_⟩
    obtain ⟨hM1, hM2, hM3⟩ := HM.out
    simp only [hM1]
    obtain ⟨X3, hX3⟩ : ∃ X3, ((w3.alloc (.cells #[.slice a (insOf z (enum l)).length cw] 73)).alloc (.cells #[.int .i64 0] 3)) = X3 := ⟨_, rfl⟩
    have hsX : X3.heap.size = M2 := by rw [← hX3]; simp; omega
    have hbX : Below V.heap.size V X3 := by rw [← hX3]; exact (hb3.alloc z3 _).alloc (by simp; omega) _
    have hK13 : Blk X3 w3.heap.size 73 #[.slice a (insOf z (enum l)).length cw] := by rw [← hX3]; exact (Blk.newAt rfl).alloc _
    have hK14 : Blk X3 M1 3 #[.int .i64 0] := by rw [← hX3]; exact Blk.newAt (by simp; omega)
    have hwX : insOf z (enum l) ≠ [] → ∃ g, a = some ⟨g, 0, none⟩ ∧ V.heap.size ≤ g ∧ g < w3.heap.size ∧ ∀ (k : Nat) x, (insOf z (enum l))[k]? = some x → X3.cell? ⟨g, k, none⟩ = some (.int .i64 x) := by
      intro hne
      obtain ⟨g', h1, h2, h3, h4⟩ := hw hne
      refine ⟨g', h1, h2, h3, fun k x hx => ?_⟩
      rw [← hX3, ← h4 k x hx]
      exact (((Below.refl _ w3).alloc (Nat.le_refl _) _).alloc (by simp) _).cell (p := ⟨g', k, none⟩) h3
    rw [hX3]
    have hmade := map_in_made X3 p z
    rw [hsX] at hmade
    refine CallsIn.mono (callsIn_wide.2 hmade) ?_
    rintro r w4 ⟨rfl, hb4, hs4, cm4, cz4⟩
    rw [hM3] at cz4
    have hbV4 : Below V.heap.size V w4 := hbX.trans (hb4.mono (by omega))
    have HI4 := Lib.hid (HI1.out.keeps (Keeps.of_below (S := []) hbV4) (by simp; have := HZ.out; omega) (by simp; have := HZ.out; omega) (by simp; have := HZ.out; omega) (by simp; have := HZ.out; omega) (by simp; have := HZ.out; omega))
    have HB4 := Lib.hid (HB1.out.trans (hbV4.mono (by have := HZ.out; omega)))
    have HK4 : Hid (w4.heap[D]? = some (.deferred (some []))) := (hbV4.block D HZ.out.2.2.2.2.2.1).trans HK.out
    have HM4 := Lib.hid (HMV.out.below hbV4 (by have := HZ.out; omega) (by have := HZ.out; omega) (by have := HZ.out; omega))
    have HK13 := Lib.hid ((Keeps.of_below (S := []) hb4).blk (by omega) (by simp) hK13)
    have hk14 := (Keeps.of_below (S := []) hb4).blk (by omega) (by simp) hK14
    have HW4 : Hid (insOf z (enum l) ≠ [] → ∃ g, a = some ⟨g, 0, none⟩ ∧ V.heap.size ≤ g ∧ g < w3.heap.size ∧ ∀ (k : Nat) x, (insOf z (enum l))[k]? = some x → w4.cell? ⟨g, k, none⟩ = some (.int .i64 x)) := Lib.hid fun hne => by
      obtain ⟨g', h1, h2, h3, h4⟩ := hwX hne
      exact ⟨g', h1, h2, h3, fun k x hx => (hb4.cell (p := ⟨g', k, none⟩) (show g' < _ by omega)).trans (h4 k x hx)⟩
    have hit2 := in_iter w4 p bl bv M2 M3 g l lv HM4.out hz z [M1] cm4 cz4 (by omega) (by omega) (by simp; omega) (by simp; have := HZ.out; omega) (by simp; omega)
    have HS4 : Hid (w4.heap.size = M2 + 2 ∧ V.heap.size ≤ w3.heap.size) := ⟨hs4, z3⟩
    clear hX3 hsX hbX hK13 hK14 hwX hmade hb4 cm4 cz4 hbV4 hw hb3 c0' z3 HI1 HB1 HMV HK hs4 x1
    gi_wp2
    refine range_run (gf := 116) (lb := #[.pointer (some ⟨M2, 0, none⟩), .pointer (some ⟨M3, 0, none⟩)]) (encs := fun b : Nat => #[.int .i64 b]) (xs := insOf z (enum l)) (S := [M1]) rfl (enters_of Try.func116 (by kernel_rfl) rfl) hit2 ?hS2 (fun _ => rfl)
      (fun pre W2 => Keeps w4.heap.size [M1] w4 W2 ∧ Blk W2 M1 3 #[.int .i64 pre.length]) ?hI2 ?h02 ?hround2 ?hdone2
    case hS2 => simp; have := HS4.out; omega
    case hI2 =>
      rintro s X Y ⟨a', b'⟩ hb'
      exact ⟨a'.trans (Keeps.of_below hb'), (Keeps.of_below (S := []) hb').blk (by have := HS4.out; omega) (by simp) b'⟩
    case h02 => exact ⟨Keeps.refl _ _ _, by simpa using hk14⟩
    case hround2 =>
      rintro m l' pre x rest W rfl hx ⟨hkW, hbW⟩ hlt2
      have hne : insOf z (enum l) ≠ [] := by rw [hx]; simp
      obtain ⟨g', rfl, hg1, hg2, hg3⟩ := HW4.out hne
      have hgx := hg3 pre.length x (by rw [hx]; simp)
      have hnl : pre.length < (insOf z (enum l)).length := by rw [hx]; simp
      have hnz : (insOf z (enum l)).length ≤ 1000 := Nat.le_trans (insOf_le z _) (by rw [enum_length]; exact hz)
      clear hx hg3 hne
      gi_wp2
      refine ⟨Below.refl _ _, fun V2 kv hsv => ?_⟩
      have kv4 : Keeps w4.heap.size [M1] w4 V2 := hkW.trans (Keeps.of_below (Keeps.below (kv.mono hkW.size (fun i hi => hi)) (by simp)))
      have hbV : Blk V2 M1 3 #[.int .i64 pre.length] := kv.blk (by have := HS4.out; omega) (by simp; have := HS4.out; omega) hbW
      have d1 : V2.cell? ⟨g', pre.length, none⟩ = some (.int .i64 x) := (kv4.cell g' _ (by have := HS4.out; omega) (by simp; omega)).trans hgx
      have d2 : V2.cell? ⟨w3.heap.size, 0, none⟩ = some (.slice (some ⟨g', 0, none⟩) (insOf z (enum l)).length cw) := by rw [(kv4.blk (by have := HS4.out; omega) (by simp; omega) HK13.out).cell]; rfl
      have d3 : V2.cell? ⟨M1, 0, none⟩ = some (.int .i64 pre.length) := by rw [hbV.cell]; rfl
      have d4 : V2.frozen? ⟨M1, 0, none⟩ = false := hbV.frozen 0
      have hd : decide ((insOf z (enum l)).length ≤ pre.length) = false := by simp; omega
      have HkV := Lib.hid kv4
      have HbV := Lib.hid hbV
      clear kv4 hbV kv hkW hbW hgx hsv hit2 hk14 hlt2
      gi_wp2
      have kk : Keeps V2.heap.size [M1] V2 (V2.setCell ⟨M1, 0, none⟩ (.int .i64 (pre.length + 1))) := (Keeps.refl _ _ _).setCell _ _ (.inl (by simp))
      refine ⟨⟨HkV.out.trans (kk.mono HkV.out.size (fun i hi => hi)), ?_⟩, kk⟩
      have := HbV.out.set_ 0 (.int .i64 (pre.length + 1))
      simpa using this
    case hdone2 =>
      rintro D2 W hD2 ⟨hkW, hbW⟩ hK2
      have i5 := HI4.out.keeps hkW (by have := HS4.out; have := HZ.out; simp; omega) (by have := HS4.out; have := HZ.out; simp; omega) (by have := HS4.out; have := HZ.out; simp; omega) (by have := HS4.out; have := HZ.out; simp; omega) (by have := HS4.out; have := HZ.out; simp; omega)
      have m5 := HM4.out.keeps hkW (by have := HS4.out; have := HZ.out; simp; omega) (by have := HS4.out; have := HZ.out; simp; omega) (by have := HS4.out; have := HZ.out; simp; omega)
      have k5 := (hkW.block D (by have := HS4.out; have := HZ.out; omega) (by have := HS4.out; have := HZ.out; simp; omega)).trans HK4.out
      have b5 := HB4.out.trans (Keeps.below (hkW.mono (by have := HS4.out; have := HZ.out; omega) (fun i hi => hi)) (by simp; have := HS4.out; have := HZ.out; omega) : Below w.heap.size w4 W)
      have s5 := hkW.size
      have q13 := hkW.blk (by have := HS4.out; omega) (by simp; omega) HK13.out
      have HT : Hid (∀ w', Below W.drew.heap.size W.drew w' → w'.cell? ⟨w.heap.size, 0, none⟩ = some (.pointer (some ⟨p, 0, none⟩)) ∧ w'.cell? ⟨N1, 0, none⟩ = some (.slice (some ⟨b, 0, none⟩) l.length c) ∧ w'.cell? ⟨N3, 0, none⟩ = some (.int .i64 l.length) ∧ w'.cell? ⟨N4, 0, none⟩ = some (.int .i64 (states l 0)) ∧ w'.cell? ⟨N4, 1, none⟩ = some (.int .i64 (states l 1)) ∧ w'.cell? ⟨N4, 2, none⟩ = some (.int .i64 (states l 2)) ∧ w'.cell? ⟨w3.heap.size, 0, none⟩ = some (.slice a (insOf z (enum l)).length cw) ∧ w'.cell? ⟨M1, 0, none⟩ = some (.int .i64 ((insOf z (enum l)).length)) ∧ w'.frozen? ⟨N2, 0, none⟩ = false ∧ w'.cell? ⟨N2, 0, none⟩ = some (cellV N2 w')) := Lib.hid fun w' hb' => by
        have k : ∀ b o, b < W.heap.size → w'.cell? ⟨b, o, none⟩ = W.cell? ⟨b, o, none⟩ := fun b o h => hb'.cell (p := ⟨b, o, none⟩) h
        have f : ∀ b o, b < W.heap.size → w'.frozen? ⟨b, o, none⟩ = W.frozen? ⟨b, o, none⟩ := fun b o h => hb'.frozen (p := ⟨b, o, none⟩) h
        have y : w.heap.size < W.heap.size ∧ N1 < W.heap.size ∧ N2 < W.heap.size ∧ N3 < W.heap.size ∧ N4 < W.heap.size ∧ w3.heap.size < W.heap.size ∧ M1 < W.heap.size := by have := HS4.out; have := HZ.out; omega
        refine ⟨?_, ?_, ?_, ?_, ?_, ?_, ?_, ?_, ?_, ?_⟩
        · rw [k _ _ y.1, i5.b0.cell]; rfl
        · rw [k _ _ y.2.1, i5.b1.cell]; rfl
        · rw [k _ _ y.2.2.2.1, i5.b3.cell]; rfl
        · rw [k _ _ y.2.2.2.2.1, i5.b4.cell]; rfl
        · rw [k _ _ y.2.2.2.2.1, i5.b4.cell]; rfl
        · rw [k _ _ y.2.2.2.2.1, i5.b4.cell]; rfl
        · rw [k _ _ y.2.2.2.2.2.1, q13.cell]; rfl
        · rw [k _ _ y.2.2.2.2.2.2, hbW.cell]; rfl
        · rw [f _ _ y.2.2.1]; exact i5.b2.frozen 0
        · refine cellV_some (v := .bool false) ?_; rw [k _ _ y.2.2.1, i5.b2.cell]; rfl
      have HT' : Hid (∀ w' u, Below W.drew.heap.size W.drew w' → (w'.setCell ⟨N2, 0, none⟩ u).cell? ⟨w.heap.size, 0, none⟩ = some (.pointer (some ⟨p, 0, none⟩)) ∧ (w'.setCell ⟨N2, 0, none⟩ u).cell? ⟨N1, 0, none⟩ = some (.slice (some ⟨b, 0, none⟩) l.length c) ∧ (w'.setCell ⟨N2, 0, none⟩ u).cell? ⟨N3, 0, none⟩ = some (.int .i64 l.length) ∧ (w'.setCell ⟨N2, 0, none⟩ u).cell? ⟨N4, 0, none⟩ = some (.int .i64 (states l 0)) ∧ (w'.setCell ⟨N2, 0, none⟩ u).cell? ⟨N4, 1, none⟩ = some (.int .i64 (states l 1)) ∧ (w'.setCell ⟨N2, 0, none⟩ u).cell? ⟨N4, 2, none⟩ = some (.int .i64 (states l 2)) ∧ (w'.setCell ⟨N2, 0, none⟩ u).cell? ⟨w3.heap.size, 0, none⟩ = some (.slice a (insOf z (enum l)).length cw) ∧ (w'.setCell ⟨N2, 0, none⟩ u).cell? ⟨M1, 0, none⟩ = some (.int .i64 ((insOf z (enum l)).length)) ∧ (w'.setCell ⟨N2, 0, none⟩ u).frozen? ⟨N2, 0, none⟩ = false ∧ (w'.setCell ⟨N2, 0, none⟩ u).cell? ⟨N2, 0, none⟩ = some (cellV N2 (w'.setCell ⟨N2, 0, none⟩ u))) := Lib.hid fun w' u hb' => by
        obtain ⟨h1, h2, h3, h4, h5, h6, h7, h8, h9, h10⟩ := HT.out w' hb'
        refine ⟨cell_other (by have := HZ.out; omega) h1, cell_other (by have := HZ.out; omega) h2, cell_other (by have := HZ.out; omega) h3, cell_other (by have := HZ.out; omega) h4, cell_other (by have := HZ.out; omega) h5, cell_other (by have := HZ.out; omega) h6, cell_other (by have := HZ.out; have := HS4.out; omega) h7, cell_other (by have := HZ.out; have := HS4.out; omega) h8, by rw [World.frozen?_setCell]; exact h9, ?_⟩
        exact cellV_some (World.cell?_setCell_same' _ _ _ (by rw [h10]; rfl))
      have HM5 : Hid (MapAt W.drew p bl bv g l lv) := m5.drew
      have HK5 := Lib.hid k5
      have HK2 := Lib.hid hK2
      have HB5 := Lib.hid b5
      have HS5 := Lib.hid s5
      have HI5 := Lib.hid i5
      have e1 : ¬ N2 = w.heap.size := by have := HZ.out; omega
      have e2 : ¬ N2 = N1 := by have := HZ.out; omega
      have e3 : ¬ N2 = N3 := by have := HZ.out; omega
      have e4 : ¬ N2 = N4 := by have := HZ.out; omega
      have e5 : ¬ N2 = w3.heap.size := by have := HZ.out; have := HS4.out; omega
      have e6 : ¬ N2 = M1 := by have := HZ.out; have := HS4.out; omega
      have st3 := states3 HO.out
      have HD2 := Lib.hid hD2
      clear k5 m5 i5 q13 hbW hkW hK2 b5 s5 hit2 hk14 hD2
      gi_wp2_with fail
      refine wpIn_wide.2 ?_
      go_region_held3 (fun w' => w'.cell? ⟨w.heap.size, 0, none⟩ = some (.pointer (some ⟨p, 0, none⟩)) ∧ w'.cell? ⟨N1, 0, none⟩ = some (.slice (some ⟨b, 0, none⟩) l.length c) ∧ w'.cell? ⟨N3, 0, none⟩ = some (.int .i64 l.length) ∧ w'.cell? ⟨N4, 0, none⟩ = some (.int .i64 (states l 0)) ∧ w'.cell? ⟨N4, 1, none⟩ = some (.int .i64 (states l 1)) ∧ w'.cell? ⟨N4, 2, none⟩ = some (.int .i64 (states l 2)) ∧ w'.cell? ⟨w3.heap.size, 0, none⟩ = some (.slice a (insOf z (enum l)).length cw) ∧ w'.cell? ⟨M1, 0, none⟩ = some (.int .i64 ((insOf z (enum l)).length)) ∧ w'.frozen? ⟨N2, 0, none⟩ = false ∧ w'.cell? ⟨N2, 0, none⟩ = some (cellV N2 w'))
        (first | (go_keep; done) | exact HT.out _ (Below.refl _ _) | exact HT.out _ hb6 | exact HT.out _ (hb6.trans (hb7.mono hb6.size)) | exact HT.out _ ((hb6.trans (hb7.mono hb6.size)).trans (hb8.mono (Nat.le_trans hb6.size hb7.size))) | exact HT.out _ (((hb6.trans (hb7.mono hb6.size)).trans (hb8.mono (Nat.le_trans hb6.size hb7.size))).trans (hb9.mono (Nat.le_trans (Nat.le_trans hb6.size hb7.size) hb8.size))) | exact HT'.out _ _ (((hb6.trans (hb7.mono hb6.size)).trans (hb8.mono (Nat.le_trans hb6.size hb7.size))).trans (hb9.mono (Nat.le_trans (Nat.le_trans hb6.size hb7.size) hb8.size))))
        (first | (go_at_call 28; refine (live_any W.drew p bl bv g l lv HM5.out HO.out z).mono ?_; rintro r w' ⟨rfl, rfl⟩) | (go_at_call 29; refine (map_states w8 p bl bv g l lv (((HM5.out.grow hb6).grow hb7).grow hb8) 3).mono ?_; rintro r w9 ⟨rfl, hb9⟩) | (go_at_call 29; refine (map_states w7 p bl bv g l lv ((HM5.out.grow hb6).grow hb7) 2).mono ?_; rintro r w8 ⟨rfl, hb8⟩) | (go_at_call 29; refine (map_states w6 p bl bv g l lv (HM5.out.grow hb6) 1).mono ?_; rintro r w7 ⟨rfl, hb7⟩) | (go_at_call 29; refine (map_states W.drew p bl bv g l lv HM5.out 0).mono ?_; rintro r w6 ⟨rfl, hb6⟩))
      have h69 := (((hb6.trans (hb7.mono hb6.size)).trans (hb8.mono (Nat.le_trans hb6.size hb7.size))).trans (hb9.mono (Nat.le_trans (Nat.le_trans hb6.size hb7.size) hb8.size)))
      have zW : W.drew.heap.size = W.heap.size := rfl
      rw [zW] at h69
      have j2 : w9.heap[D2]? = some (.deferred (some [])) := (h69.block D2 (Array.getElem?_eq_some_iff.1 HK2.out).1).trans HK2.out
      have j1 : w9.heap[D]? = some (.deferred (some [])) := (h69.block D (Array.getElem?_eq_some_iff.1 HK5.out).1).trans HK5.out
      have z9 := h69.size
      have n21 : D ≠ D2 := by have := HZ.out; have := HS4.out; have := HD2.out; omega
      obtain ⟨_, _, _, _, _, _, _, _, _, h10⟩ := HT.out w9 (((hb6.trans (hb7.mono hb6.size)).trans (hb8.mono (Nat.le_trans hb6.size hb7.size))).trans (hb9.mono (Nat.le_trans (Nat.le_trans hb6.size hb7.size) hb8.size)))
      have bw9 : Below w.heap.size w w9 := HB5.out.trans ((below_drew (Below.refl W.heap.size W)).trans h69 |>.mono (Nat.le_trans HB5.out.size (Nat.le_refl _)))
      clear hb6 hb7 hb8 hb9 h69
      obtain ⟨W9, hW9⟩ : ∃ W9, w9.setCell ⟨N2, 0, none⟩ (.bool true) = W9 := ⟨_, rfl⟩
      have kW9 : Keeps w9.heap.size [N2] w9 W9 := by rw [← hW9]; exact (Keeps.refl _ _ _).setCell _ _ (.inl (by simp))
      have cW9 : W9.cell? ⟨N2, 0, none⟩ = some (.bool true) := by rw [← hW9]; exact World.cell?_setCell_same' _ _ _ (by rw [h10]; rfl)
      have l2 := (kW9.block D2 (Array.getElem?_eq_some_iff.1 j2).1 (by simp; have := HZ.out; have := HS4.out; have := HD2.out; omega)).trans j2
      have l1 := (kW9.block D (Array.getElem?_eq_some_iff.1 j1).1 (by simp; have := HZ.out; have := HS4.out; omega)).trans j1
      have bW9 : Below w.heap.size w W9 := bw9.trans (Keeps.below (kW9.mono bw9.size (fun i hi => hi)) (by simp; have := HZ.out; omega))
      rw [hW9]
      have HH := Lib.hid (And.intro kW9 (And.intro l2 (And.intro l1 bW9)))
      clear kW9 l2 l1 bW9 hW9 bw9 h10 j1 j2
      gi_wp2
      obtain ⟨kW9, l2, l1, bW9⟩ := HH.out
      have n2D : N2 ≠ D2 ∧ N2 ≠ D := by have := HZ.out; have := HS4.out; have := HD2.out; omega
      have kF : Keeps (N2 + 1) [D2, D] W9 ((W9.putObj D2 (.deferred none)).putObj D (.deferred none)) := ((Keeps.refl _ _ W9).putObj D2 _ (.inl (by simp))).putObj D _ (.inl (by simp))
      have kB : Below w.heap.size W9 ((W9.putObj D2 (.deferred none)).putObj D (.deferred none)) := Keeps.below (((Keeps.refl w.heap.size [D2, D] W9).putObj D2 _ (.inl (by simp))).putObj D _ (.inl (by simp))) (by simp; have := HZ.out; have := HS4.out; have := HD2.out; omega)
      have cF := (kF.cell N2 0 (by omega) (by simp; exact n2D)).trans cW9
      refine ⟨by simp, .inl ⟨_, _, rfl, run_takeDeferred l2, ?_⟩⟩
      refine ⟨by simp, .inl ⟨_, _, rfl, run_takeDeferred (w := W9.putObj D2 (.deferred none)) ((World.putObj_heap_other n21).trans l1), ?_⟩⟩
      refine ⟨.bool true, ?_, rfl, bW9.trans kB⟩
      simp [results, Try.results36, go_sem, cF]
end Go.Proofs.Ytcgafnmpfdkfoaa
