/- Law SnapZones: the walk. -/
import Derived.Test.YtcgafnmpfdkfoaaMade12
import Derived.Test.YtcgafnmpfdkfoaaFrameEq
namespace Go.Proofs.Ytcgafnmpfdkfoaa
open Go.RowKit

theorem geom_holds_z (g : G) (z o : Int) (w : World) (b : Bool) (h : g.holds z o = b) : Calls Try.prog 41 #[g.v, .int .i64 z, .int .i64 o] w fun e w' => e = .returned (.bool b) ∧ Below w.heap.size w w' := h ▸ geom_holds g z o w
/-- Frames, whatever the snapshot. -/
theorem frames_err (w : World) (p bl bv : Nat) (g : G) (l : List E) (lv : List Int) (s : Sn) (hM : MapAt w p bl bv g l lv) (hz : l.length ≤ 1000) (z : Int) (h : s.right l = false ∨ g.holds z 0 = false) :
    Calls Try.prog 39 #[s.v p, .int .i64 z] w fun r w' => r = .returned (.tuple #[.slice none 0 0, .int .i64 10]) ∧ Below w.heap.size w w' := by
  cases hr : s.right l with
  | false => exact frames_no w p bl bv g l lv s hM hz z hr
  | true => exact frames_out w p bl bv g l lv s hM hz z hr (h.resolve_left (by rw [hr]; simp))
theorem frame_zone (s : Sn) (g : G) (l : List E) (a b : Int) (k : Nat) : (frameAt s g l b k).arr.setIfInBounds 1 (.int .i64 a) = (frameAt s g l a k).arr := by
  unfold frameAt Fr.arr
  split <;> (apply Array.ext'; simp)
theorem frameAt_nums (s : Sn) (g : G) (l : List E) (z : Int) (k : Nat) : (frameAt s g l z k).arr[2]? = some (.int .i64 k) ∧ (frameAt s g l z k).arr[1]? = some (.int .i64 z) := by
  unfold frameAt Fr.arr
  split
  · rename_i h; subst h; exact ⟨by simp, by simp⟩
  · exact ⟨by simp, by simp⟩
theorem G.holds_range {g : G} {z : Int} (h : g.holds z 0 = true) : 0 ≤ z ∧ z < g.all := by
  unfold G.holds at h
  simp only [Bool.and_eq_true, wi_true] at h
  omega
theorem frame_right_true (s : Sn) (g : G) (l : List E) (z : Int) (k : Nat) (hz : 0 ≤ z ∧ z < g.all) (hr : g.right = true) (hk : k ≤ 60000) (hs : 0 ≤ s.gen ∧ s.gen ≤ 281474976710655) (he : 1 ≤ s.ep ∧ s.ep ≤ 4294967295) : (frameAt s g l z k).right = true := by
  have ha := (G.small_of_right hr).all_le
  unfold frameAt Fr.right
  split <;> simp only [Bool.and_eq_true, wi_true] <;> exact ⟨⟨⟨⟨by omega, by omega⟩, by omega⟩, he⟩, hs⟩
def sZ : Sn := ⟨3, 2, 281474976710655⟩

set_option maxRecDepth 100000 in
set_option maxHeartbeats 2000000 in
theorem zones_walk (w : World) (g : G) (A : Option Addr) (n c : Nat) (ops : List Op11) (h : OpsAt w A n c ops) (a b : Int) :
    Calls Try.prog 6 #[g.v, .slice A n c, .int .i64 a, .int .i64 b] w fun r w' => r = .returned (.bool true) ∧ Below w.heap.size w w' := by
  obtain ⟨W0, hW0⟩ : ∃ W0, w.alloc g.box = W0 := ⟨_, rfl⟩
  have k0 : Blk W0 w.heap.size 23 g.arr := by rw [← hW0]; exact Blk.newAt rfl
  have U0 : Below w.heap.size w W0 := by rw [← hW0]; exact below_box _ _
  have HU := Lib.hid U0
  have K0 := Lib.hid k0
  have HO := Lib.hid h
  clear h U0 k0
  go_enter Try.func6, Try.ntmps6
  go_wp2_with fail
  clear hW0
  refine (anchor12 W0).mono ?_
  rintro r w1 ⟨rfl, hb1⟩
  have K1 := Lib.hid ((Keeps.of_below (S := []) hb1).blk K0.out.lt (by simp) K0.out)
  have U1 : Hid (Below w.heap.size w w1) := Lib.hid (HU.out.trans (hb1.mono HU.out.size))
  obtain ⟨⟨x0, x1⟩, ⟨x2, x3⟩, x4, x5⟩ := K1.out.gcells
  clear hb1
  go_wp2_with fail
  by_cases hbad : g.right = false ∨ 60 < n
  · have hmade : Hid (Calls Try.prog 38 #[g.v, .slice A n c, .int .i64 3, .int .i64 2, .int .i64 281474976710655] w1 fun r w' => r = .returned (.tuple #[sn0, ref0, .bool false]) ∧ Below w1.heap.size w1 w') := by
      cases hr : g.right with
      | false => exact Lib.hid (made12_no w1 g A n c _ _ _ hr)
      | true => exact Lib.hid (made12_long w1 g A n c _ _ _ hr (hbad.resolve_left (by rw [hr]; simp)))
    refine hmade.out.mono ?_
    rintro r w2 ⟨rfl, hb2⟩
    have U2 : Hid (Below w.heap.size w w2) := Lib.hid (U1.out.trans (hb2.mono U1.out.size))
    clear hb2 x0 x1 x2 x3 x4 x5 hmade hbad
    go_wp2
    go_ret
    exact ⟨rfl, (U2.out.alloc U2.out.size _).alloc (by have := U2.out.size; simp; omega) _⟩
  · have hr : g.right = true := by cases hr : g.right with | true => rfl | false => exact absurd (.inl hr) hbad
    have hn : n ≤ 60 := by omega
    have hops : OpsAt w1 A n c ops := by
      obtain ⟨h1, h2, h3, h4⟩ := HO.out
      refine ⟨h1, h2, h3, fun hp => ?_⟩
      obtain ⟨b', off, e1, e2, e3⟩ := h4 hp
      have hk : ∀ o, w1.cell? ⟨b', o, none⟩ = w.cell? ⟨b', o, none⟩ := fun o => U1.out.cell (p := ⟨b', o, none⟩) e2
      exact ⟨b', off, e1, Nat.lt_of_lt_of_le e2 U1.out.size, fun k o ho => by simpa only [hk] using e3 k o ho⟩
    refine (made12_yes w1 g A n c ops hops sZ hr hn).mono ?_
    rintro r w2 ⟨p, bl, bv, lv, rb, rc, rfl, hM, hOk, _, _, hb2⟩
    obtain ⟨l, hl⟩ : ∃ l, playL g ops = l := ⟨_, rfl⟩
    rw [hl] at hM hOk ⊢
    obtain ⟨V2, hV2⟩ : ∃ V2, (w2.alloc (sZ.box p)).alloc (.cells (refArr sZ g (.slice (some ⟨rb, 0, none⟩) l.length rc)) 55) = V2 := ⟨_, rfl⟩
    have b3 : Below w2.heap.size w2 V2 := by rw [← hV2]; exact (below_box _ _).alloc (by simp) _
    have y3 : Blk V2 w2.heap.size 53 (sZ.arr p) := by rw [← hV2]; exact (Blk.newAt rfl).alloc _
    have M3 := Lib.hid (hM.grow b3)
    have U3 : Hid (Below w.heap.size w V2) := Lib.hid (U1.out.trans ((hb2.trans (b3.mono hb2.size)).mono U1.out.size))
    have K3 := Lib.hid ((Keeps.of_below (S := []) (hb2.trans (b3.mono hb2.size))).blk K1.out.lt (by simp) K1.out)
    have HOk := Lib.hid hOk
    have HY := Lib.hid y3
    have HR := Lib.hid hr
    obtain ⟨⟨y0, y1⟩, y2, y3⟩ := y3.scells
    clear hM hOk hb2 b3 hl hbad hops x0 x1 x2 x3 x4 x5 hr
    have hz := HOk.out.len1000
    by_cases hab : sZ.right l = false ∨ g.holds a 0 = false ∨ g.holds b 0 = false
    · have fin : Hid (∀ w4 w5, Below V2.heap.size V2 w4 → Below w4.heap.size w4 w5 → MapAt w5 p bl bv g l lv ∧ Blk w5 w2.heap.size 53 (sZ.arr p) ∧ Blk w5 w.heap.size 23 g.arr ∧ Below w.heap.size w w5) := Lib.hid fun w4 w5 h4 h5 => by
        have hb := h4.trans (h5.mono h4.size)
        exact ⟨M3.out.grow hb, (Keeps.of_below (S := []) hb).blk HY.out.lt (by simp) HY.out, (Keeps.of_below (S := []) hb).blk K3.out.lt (by simp) K3.out, U3.out.trans (hb.mono U3.out.size)⟩
      cases hsr : sZ.right l with
      | false =>
        go_wp2_with fail
        clear hV2
        refine (frames_err V2 p bl bv g l lv sZ M3.out hz a (.inl hsr)).mono ?_
        rintro r w4 ⟨rfl, hb4⟩
        obtain ⟨m4, s4, g4, u4⟩ := fin.out w4 w4 hb4 (Below.refl _ _)
        have H4 := Lib.hid hb4
        have M4 := Lib.hid m4
        clear y0 y1 y2 y3 hb4 m4 u4 g4
        obtain ⟨⟨y0, y1⟩, y2, y3⟩ := s4.scells
        clear s4
        go_wp2_with fail
        refine (frames_err w4 p bl bv g l lv sZ M4.out hz b (.inl hsr)).mono ?_
        rintro r w5 ⟨rfl, hb5⟩
        obtain ⟨m5, s5, g5, u5⟩ := fin.out w4 w5 H4.out hb5
        have M5 := Lib.hid m5
        have U5 := Lib.hid u5
        clear y0 y1 y2 y3 hb5 m5 u5 g5
        obtain ⟨⟨y0, y1⟩, y2, y3⟩ := s5.scells
        clear s5
        go_wp2_with fail
        refine (snap_right_v w5 p bl bv g l lv sZ M5.out hz _ hsr).mono ?_
        rintro r w6 ⟨rfl, hb6⟩
        go_wp2
        go_ret
        exact ⟨rfl, U5.out.trans (hb6.mono U5.out.size)⟩
      | true =>
        have hok := HOk.out.sn hsr
        have HK := Lib.hid hok
        clear hok
        cases ha : g.holds a 0 with
        | false =>
          go_wp2_with fail
          clear hV2
          refine (frames_err V2 p bl bv g l lv sZ M3.out hz a (.inr ha)).mono ?_
          rintro r w4 ⟨rfl, hb4⟩
          obtain ⟨m4, s4, g4, u4⟩ := fin.out w4 w4 hb4 (Below.refl _ _)
          have H4 := Lib.hid hb4
          have M4 := Lib.hid m4
          clear y0 y1 y2 y3 hb4 m4 u4 g4
          obtain ⟨⟨y0, y1⟩, y2, y3⟩ := s4.scells
          clear s4
          go_wp2_with fail
          have hfr : Hid (Calls Try.prog 39 #[sZ.v p, .int .i64 b] w4 fun r w' => (∃ v e, r = .returned (.tuple #[v, .int .i64 e])) ∧ Below w4.heap.size w4 w') := by
            cases hb : g.holds b 0 with
            | false => exact Lib.hid ((frames_err w4 p bl bv g l lv sZ M4.out hz b (.inr hb)).mono fun r w' h => ⟨⟨_, _, h.1⟩, h.2⟩)
            | true => exact Lib.hid ((frames_yes w4 p bl bv g l lv sZ M4.out HK.out b hb).mono fun r w' h => by obtain ⟨x, y, h1, _, _, h2⟩ := h; exact ⟨⟨_, _, h1⟩, h2⟩)
          refine hfr.out.mono ?_
          rintro r w5 ⟨⟨v5, e5, rfl⟩, hb5⟩
          obtain ⟨m5, s5, g5, u5⟩ := fin.out w4 w5 H4.out hb5
          have M5 := Lib.hid m5
          have U5 := Lib.hid u5
          have G5 := Lib.hid g5
          clear y0 y1 y2 y3 hb5 m5 u5 g5 hfr
          obtain ⟨⟨y0, y1⟩, y2, y3⟩ := s5.scells
          clear s5
          go_wp2_with fail
          refine (snap_right_v w5 p bl bv g l lv sZ M5.out hz _ hsr).mono ?_
          rintro r w6 ⟨rfl, hb6⟩
          have G6 := (Keeps.of_below (S := []) hb6).blk G5.out.lt (by simp) G5.out
          have U6 := Lib.hid (U5.out.trans (hb6.mono U5.out.size))
          obtain ⟨⟨x0, x1⟩, ⟨x2, x3⟩, x4, x5⟩ := G6.gcells
          clear y0 y1 y2 y3 hb6 G6
          go_wp2_with fail
          refine (geom_holds_z g a 0 w6 _ ha).mono ?_
          rintro r w7 ⟨rfl, hb7⟩
          go_wp2
          go_ret
          exact ⟨rfl, U6.out.trans (hb7.mono U6.out.size)⟩
        | true =>
          have hbf : g.holds b 0 = false := (hab.resolve_left (by rw [hsr]; simp)).resolve_left (by rw [ha]; simp)
          go_wp2_with fail
          clear hV2
          refine (frames_yes V2 p bl bv g l lv sZ M3.out HK.out a ha).mono ?_
          rintro r w4 ⟨b1, c1, rfl, _, hL1, hb4⟩
          obtain ⟨m4, s4, g4, u4⟩ := fin.out w4 w4 hb4 (Below.refl _ _)
          have H4 := Lib.hid hb4
          have M4 := Lib.hid m4
          clear y0 y1 y2 y3 hb4 m4 u4 g4 hL1
          obtain ⟨⟨y0, y1⟩, y2, y3⟩ := s4.scells
          clear s4
          go_wp2_with fail
          refine (frames_err w4 p bl bv g l lv sZ M4.out hz b (.inr hbf)).mono ?_
          rintro r w5 ⟨rfl, hb5⟩
          obtain ⟨m5, s5, g5, u5⟩ := fin.out w4 w5 H4.out hb5
          have M5 := Lib.hid m5
          have U5 := Lib.hid u5
          have G5 := Lib.hid g5
          clear y0 y1 y2 y3 hb5 m5 u5 g5
          obtain ⟨⟨y0, y1⟩, y2, y3⟩ := s5.scells
          clear s5
          go_wp2_with fail
          refine (snap_right_v w5 p bl bv g l lv sZ M5.out hz _ hsr).mono ?_
          rintro r w6 ⟨rfl, hb6⟩
          have G6 := (Keeps.of_below (S := []) hb6).blk G5.out.lt (by simp) G5.out
          have U6 := Lib.hid (U5.out.trans (hb6.mono U5.out.size))
          have HG6 := Lib.hid G6
          obtain ⟨⟨x0, x1⟩, ⟨x2, x3⟩, x4, x5⟩ := G6.gcells
          clear y0 y1 y2 y3 hb6 G6
          go_wp2_with fail
          refine (geom_holds_z g a 0 w6 _ ha).mono ?_
          rintro r w7 ⟨rfl, hb7⟩
          have G7 := (Keeps.of_below (S := []) hb7).blk HG6.out.lt (by simp) HG6.out
          have U7 := Lib.hid (U6.out.trans (hb7.mono U6.out.size))
          clear x0 x1 x2 x3 x4 x5 hb7
          obtain ⟨⟨x0, x1⟩, ⟨x2, x3⟩, x4, x5⟩ := G7.gcells
          clear G7
          go_wp2_with fail
          refine (geom_holds_z g b 0 w7 _ hbf).mono ?_
          rintro r w8 ⟨rfl, hb8⟩
          go_wp2
          go_ret
          exact ⟨rfl, U7.out.trans (hb8.mono U7.out.size)⟩
    · have hsr : sZ.right l = true := by cases hx : sZ.right l with | true => rfl | false => exact absurd (.inl hx) hab
      have ha : g.holds a 0 = true := by cases hx : g.holds a 0 with | true => rfl | false => exact absurd (.inr (.inl hx)) hab
      have hbt : g.holds b 0 = true := by cases hx : g.holds b 0 with | true => rfl | false => exact absurd (.inr (.inr hx)) hab
      have HK := Lib.hid (HOk.out.sn hsr)
      clear hab
      go_wp2_with fail
      clear hV2
      refine (frames_yes V2 p bl bv g l lv sZ M3.out HK.out a ha).mono ?_
      rintro r w4 ⟨b1, c1, rfl, _, hL1, hb4⟩
      have M4 := Lib.hid (M3.out.grow hb4)
      have Y4 := (Keeps.of_below (S := []) hb4).blk HY.out.lt (by simp) HY.out
      have G4 := Lib.hid ((Keeps.of_below (S := []) hb4).blk K3.out.lt (by simp) K3.out)
      have U4 := Lib.hid (U3.out.trans (hb4.mono U3.out.size))
      have L4 := Lib.hid hL1
      clear y0 y1 y2 y3 hb4 hL1
      obtain ⟨⟨y0, y1⟩, y2, y3⟩ := Y4.scells
      clear Y4
      go_wp2_with fail
      refine (frames_yes w4 p bl bv g l lv sZ M4.out HK.out b hbt).mono ?_
      rintro r w5 ⟨b2, c2, rfl, _, hL2, hb5⟩
      have G5 := Lib.hid ((Keeps.of_below (S := []) hb5).blk G4.out.lt (by simp) G4.out)
      have U5 := Lib.hid (U4.out.trans (hb5.mono U4.out.size))
      have L5 := Lib.hid ((own_grow L4.out hb5).1)
      have L6 := Lib.hid hL2
      clear y0 y1 y2 y3 hb5 hL2
      obtain ⟨np, hnp⟩ : ∃ np, nparts l = np := ⟨_, rfl⟩
      have hn1 : np ≤ 1000 := by have := HK.out.len; have := (G.small_of_right HR.out).B1; unfold nparts at hnp; omega
      rw [frames_length, frames_length, hnp]
      have HNP := Lib.hid hnp
      clear hnp
      go_wp2
      go_loopw [64] (fun i wr => ∃ k : Nat, k ≤ np ∧ i = .int .i64 k ∧ Below w5.heap.size w5 wr) (fun i _ => np - (intOf i).toNat)
      case atStart => exact ⟨0, Nat.zero_le _, rfl, Below.refl _ _⟩
      case round =>
        obtain ⟨k, hk, rfl, hB⟩ := hrel
        by_cases hlt : k < np
        · have hk1 := HNP.out
          have o5 := (own_grow L5.out hB).1
          have o6 := (own_grow L6.out hB).1
          have okX := frames_ok sZ g l a
          have okY := frames_ok sZ g l b
          have gX := frames_get sZ g l a k (by omega)
          have gY := frames_get sZ g l b k (by omega)
          have hset := frame_zone sZ g l a b k
          have hszX := Fr.size (frameAt_ok sZ g l a k)
          have hszY := Fr.size (frameAt_ok sZ g l b k)
          have h1Y := Fr.one (frameAt sZ g l b k)
          have hright := Lib.hid (frame_right_true sZ g l a k ((G.holds_range ha)) (HR.out) (by omega) (by decide) (by decide))
          have heq := fun W => frame_eq (frameAt sZ g l a k) (frameAt sZ g l a k) (frameAt_ok sZ g l a k) (frameAt_ok sZ g l a k) W
          have cX := fun j hj => FrL.cells o5 okX gX j hj
          have cY := fun j hj => FrL.cells o6 okY gY j hj
          have ltX := FrL.lt o5
          have ltY := FrL.lt o6
          have hcall := Lib.hid (fun W => frame_right (frameAt sZ g l a k) W)
          rw [frame_right_true sZ g l a k ((G.holds_range ha)) (HR.out) (by omega) (by decide) (by decide)] at hcall
          unfold Fr.v at hcall
          have nX : (frameAt sZ g l a k).arr[2]? = some (.int .i64 k) ∧ (frameAt sZ g l a k).arr[1]? = some (.int .i64 a) := frameAt_nums sZ g l a k
          have nY : (frameAt sZ g l b k).arr[1]? = some (.int .i64 b) := (frameAt_nums sZ g l b k).2
          generalize (frameAt sZ g l a k).arr = X at *
          generalize (frameAt sZ g l b k).arr = Y at *
          have hBw := Lib.hid (U5.out.trans (hB.mono U5.out.size))
          have HB := Lib.hid hB
          have hst1 : ∀ W : World, (storeCells ⟨W.heap.size, 0, none⟩ Y.toList 0).run Try.prog (W.alloc (.cells Z49 64)) = .ok () (W.alloc (.cells Y 64)) := fun W => run_storeCells_new W 64 Z49 Y (by rw [hszY]; exact size_frame) (by rw [hszY]; rfl) h1Y
          obtain ⟨V6, hV6⟩ : ∃ V6, wr.alloc (.cells Y 64) = V6 := ⟨_, rfl⟩
          obtain ⟨V7, hV7⟩ : ∃ V7, V6.setCell ⟨wr.heap.size, 1, none⟩ (.int .i64 a) = V7 := ⟨_, rfl⟩
          have q6 : Blk V6 wr.heap.size 64 Y := by rw [← hV6]; exact Blk.newAt rfl
          have b6 : Below wr.heap.size wr V6 := by rw [← hV6]; exact below_box _ _
          have q7 : Blk V7 wr.heap.size 64 X := by rw [← hV7, ← hset]; exact q6.set_ 1 _
          have b7 : Below wr.heap.size wr V7 := by rw [← hV7]; exact b6.setCell (Nat.le_refl _) _
          have d1 : V6.cell? ⟨wr.heap.size, 1, none⟩ = some (.int .i64 b) := by rw [q6.cell]; exact nY
          have df : V6.frozen? ⟨wr.heap.size, 1, none⟩ = false := q6.frozen 1
          have dl := q6.lt
          have dl7 := q7.lt
          have hiX : (Try.prog.info? 64).map (·.size) = some X.size := by rw [hszX]; exact size_frame
          have hiY : (Try.prog.info? 64).map (·.size) = some Y.toList.length := by rw [Array.length_toList, hszY]; exact size_frame
          have rY : wr.rangeAt b2 (k * 49) Y.toList := fun j v hv => by
            have hj := (List.getElem?_eq_some_iff.1 hv).1
            rw [Array.length_toList, hszY] at hj
            rw [cY j hj]
            simpa using hv
          have ltX7 : b1 < V7.heap.size := by have := b7.size; omega
          have eX1 : V7.cell? ⟨b1, k * 49 + 1, none⟩ = some (.int .i64 a) := by rw [b7.cell (p := ⟨b1, k * 49 + 1, none⟩) ltX, cX 1 (by omega)]; exact nX.2
          have eX2 : V7.cell? ⟨b1, k * 49 + 2, none⟩ = some (.int .i64 k) := by rw [b7.cell (p := ⟨b1, k * 49 + 2, none⟩) ltX, cX 2 (by omega)]; exact nX.1
          have hl1 : ∀ W, (∃ x : From V7, W = x.val) → W.rangeAt b1 (k * 49) X.toList := by
            rintro _ ⟨x, rfl⟩ j v hv
            have hj := (List.getElem?_eq_some_iff.1 hv).1
            rw [Array.length_toList, hszX] at hj
            rw [x.cell b1 _ ltX7, b7.cell (p := ⟨b1, k * 49 + j, none⟩) ltX, cX j hj]
            simpa using hv
          have hl2 : ∀ W, (∃ x : From V7, W = x.val) → W.rangeAt wr.heap.size 0 X.toList := by
            rintro _ ⟨x, rfl⟩ j v hv
            rw [x.cell wr.heap.size _ dl7, Nat.zero_add, q7.cell]
            simpa using hv
          have HL1 := Lib.hid hl1
          have HL2 := Lib.hid hl2
          have HIX := Lib.hid hiX
          clear hl1 hl2
          have heq' : ∀ W, (Op.equalIn 10000 64 (.agg X) (.agg X)).run Try.prog W = .ok true W := fun W => by rw [heq W]; simp
          have hfrom := @From.cell V7
          have HRY := Lib.hid rY
          have HIY := Lib.hid hiY
          have HB7 := Lib.hid b7
          clear hB o5 o6 okX okY gX gY hset h1Y heq cX cY nX nY q6 b6 q7 b7 rY hiX hiY
          go_wp2_with (refine wpList_load_mid rfl 64 (.tmp 69) rfl b2 (k * 49) rfl Y.toList _ HRY.out Try.underlying64 rfl HIY.out ?_)
          clear hV6 hV7 d1 df dl hszY hst1
          refine region_from (by kernel_rfl) (by kernel_rfl) ?_
          repeat (first
            | (go_big_quiet_want; refine quiet_load 64 (.tmp 75) rfl b1 (k * 49) rfl X HL1.out _ Try.underlying64 rfl HIX.out ?_; go_simp; go_big_quiet_on)
            | (go_big_quiet_want; refine quiet_load 64 (.tmp 17) rfl wr.heap.size 0 rfl X HL2.out _ Try.underlying64 rfl HIX.out ?_; go_simp; go_big_quiet_on)
            | (go_big_quiet_want; refine quiet_load 64 (.tmp 100) rfl b1 (k * 49) rfl X HL1.out _ Try.underlying64 rfl HIX.out ?_; go_simp; go_big_quiet_on)
            | (go_big_quiet_step ((first | (go_at_call 42; exact from_call (hcall.out _))))))
          refine wpQuiet_nil ?_
          intro W hW
          have HW : Hid (Below w5.heap.size w5 W) := Lib.hid ((HB.out.trans (HB7.out.mono HB.out.size)).trans (hW.mono (by have := HB.out.size; have := HB7.out.size; omega)))
          clear hW hfrom heq' eX1 eX2
          go_wp2
          go_roundw
          case rel => exact ⟨k + 1, by omega, by simp, HW.out⟩
          case measure => simp [intOf]; omega
        · obtain rfl : k = np := by omega
          have G6 := (Keeps.of_below (S := []) hB).blk G5.out.lt (by simp) G5.out
          obtain ⟨⟨x0, x1⟩, ⟨x2, x3⟩, x4, x5⟩ := G6.gcells
          have hpe : ((k : Int) == g.parts) = true := by
            have h1 := HNP.out
            have h2 := HK.out.len
            simp only [beq_iff_eq]
            unfold G.parts
            unfold nparts at h1
            omega
          have hB0 : 0 ≤ g.B := by have := (G.small_of_right HR.out).B0; omega
          have hB1 : g.B ≤ 1000000 := by have := (G.small_of_right HR.out).B1; omega
          have HB := Lib.hid (U5.out.trans (hB.mono U5.out.size))
          clear hB G6
          go_wp2_with (go_at_call 43; refine (geom_parts g _ hB0 hB1).mono ?_; rintro r w' ⟨rfl, rfl⟩)
          go_ret
          exact ⟨rfl, HB.out.alloc HB.out.size _⟩
end Go.Proofs.Ytcgafnmpfdkfoaa
