/- A snapshot's frames: snap.Frames. -/
import Derived.Test.YtcgafnmpfdkfoaaSnapR
import Derived.Test.YtcgafnmpfdkfoaaTail
import Derived.Test.YtcgafnmpfdkfoaaFrameV
import Derived.Deep.DeepCutAuto
namespace Go.Proofs.Ytcgafnmpfdkfoaa
open Go.RowKit

theorem frames_no (w : World) (p bl bv : Nat) (g : G) (l : List E) (lv : List Int) (s : Sn) (hM : MapAt w p bl bv g l lv) (hz : l.length ≤ 1000) (z : Int) (h : s.right l = false) :
    Calls Try.prog 39 #[s.v p, .int .i64 z] w fun r w' => r = .returned (.tuple #[.slice none 0 0, .int .i64 10]) ∧ Below w.heap.size w w' := by
  have HM := Lib.hid (hM.grow (below_box w (s.box p)))
  clear hM
  go_enter Try.func39, Try.ntmps39
  go_wp2_with fail
  refine (snap_right_v _ p bl bv g l lv s HM.out hz _ h).mono ?_
  rintro r w1 ⟨rfl, hb⟩
  go_wp2
  go_ret2
  exact ⟨rfl, below_then (below_box w _) (by simp) hb⟩
theorem frames_out (w : World) (p bl bv : Nat) (g : G) (l : List E) (lv : List Int) (s : Sn) (hM : MapAt w p bl bv g l lv) (hz : l.length ≤ 1000) (z : Int) (h : s.right l = true) (hh : g.holds z 0 = false) :
    Calls Try.prog 39 #[s.v p, .int .i64 z] w fun r w' => r = .returned (.tuple #[.slice none 0 0, .int .i64 10]) ∧ Below w.heap.size w w' := by
  have HM := Lib.hid (hM.grow (below_box w (s.box p)))
  obtain ⟨W0, hW0⟩ : ∃ W0, w.alloc (s.box p) = W0 := ⟨_, rfl⟩
  have Y0 : Blk W0 w.heap.size 53 (s.arr p) := by rw [← hW0]; exact Blk.newAt rfl
  have U0 : Below w.heap.size w W0 := by rw [← hW0]; exact below_box w _
  rw [hW0] at HM
  have HY := Lib.hid Y0
  have HU := Lib.hid U0
  obtain ⟨⟨y0, y1⟩, y2, y3⟩ := Y0.scells
  clear hM Y0 U0
  go_enter Try.func39, Try.ntmps39
  go_wp2_with fail
  clear hW0
  refine (snap_right_v _ p bl bv g l lv s HM.out hz _ h).mono ?_
  rintro r w1 ⟨rfl, hb⟩
  have HB := Lib.hid hb
  have Y1 := (Keeps.of_below (S := []) hb).blk HY.out.lt (by simp) HY.out
  clear y0 y1 y2 y3 hb
  obtain ⟨⟨y0, y1⟩, y2, y3⟩ := Y1.scells
  clear Y1
  go_wp2_with fail
  refine (map_geom w1 p bl bv g l lv (HM.out.grow HB.out)).mono ?_
  rintro r w2 ⟨rfl, hb2⟩
  have HB2 := Lib.hid hb2
  clear hb2 y0 y1 y2 y3
  go_wp2_with fail
  refine (geom_holds_b g z 0 w2 _ hh).mono ?_
  rintro r w3 ⟨rfl, hb3⟩
  have HB3 := Lib.hid hb3
  clear hb3
  go_wp2
  go_ret2
  exact ⟨rfl, HU.out.trans ((HB.out.trans ((HB2.out.trans (HB3.out.mono HB2.out.size)).mono HB.out.size)).mono HU.out.size)⟩

/-- What the first frame's making leaves. -/
def CutF (w3 : World) (F : Array Value) (f : Value) (wx : World) : Prop := ∃ bf, f = .pointer (some ⟨bf, 0, none⟩) ∧ w3.heap.size ≤ bf ∧ Below w3.heap.size w3 wx ∧ Blk wx bf 64 F
/-- What Frames hands back: a list of its own. -/
def FramesPost (w : World) (fs : List Fr) (r : Ending) (w' : World) : Prop :=
  ∃ b c, r = .returned (.tuple #[.slice (some ⟨b, 0, none⟩) fs.length c, .int .i64 0]) ∧ w.heap.size ≤ b ∧ FrL 0 w' (.slice (some ⟨b, 0, none⟩) fs.length c) fs ∧ Below w.heap.size w w'
theorem framesPost_fin {w W W' : World} {base : Nat} {fs : List Fr} {v : Value} {r : Ending} (h1 : 1 ≤ fs.length) (hr : r = .returned (.tuple #[v, .int .i64 0])) (hb : w.heap.size ≤ base) (h : FrL base W v fs) (hB : Below w.heap.size w W) (k : Below W.heap.size W W') : FramesPost w fs r W' := by
  obtain ⟨m, hm⟩ : ∃ m, fs.length = m + 1 := ⟨fs.length - 1, by omega⟩
  have h0 := h
  unfold FrL at h0
  rw [hm] at h0
  obtain ⟨g, c, rfl⟩ := own_succ h0
  rw [← hm] at hr
  have hg := (World.ownsRow.lt h g rfl).1
  refine ⟨g, c, hr, by omega, ?_, hB.trans (k.mono hB.size)⟩
  rw [← hm] at h
  exact (own_grow h k).1
set_option maxRecDepth 100000 in
set_option maxHeartbeats 1000000 in
theorem frames_yes (w : World) (p bl bv : Nat) (g : G) (l : List E) (lv : List Int) (s : Sn) (hM : MapAt w p bl bv g l lv) (hO : SnOk s g l) (z : Int) (hh : g.holds z 0 = true) :
    Calls Try.prog 39 #[s.v p, .int .i64 z] w (FramesPost w (frames s g l z)) := by
  have hS := G.small_of_right hO.right
  have hz : l.length ≤ 1000 := by have := hO.len; have := hS.B1; omega
  have hsr := hO.sn
  have HM := Lib.hid (hM.grow (below_box w (s.box p)))
  obtain ⟨W0, hW0⟩ : ∃ W0, w.alloc (s.box p) = W0 := ⟨_, rfl⟩
  have Y0 : Blk W0 w.heap.size 53 (s.arr p) := by rw [← hW0]; exact Blk.newAt rfl
  have U0 : Below w.heap.size w W0 := by rw [← hW0]; exact below_box w _
  rw [hW0] at HM
  have HY := Lib.hid Y0
  have HU := Lib.hid U0
  have HO := Lib.hid hO
  have HS := Lib.hid hS
  obtain ⟨⟨y0, y1⟩, y2, y3⟩ := Y0.scells
  clear hM Y0 U0 hO hS
  go_enter Try.func39, Try.ntmps39
  go_wp2_with fail
  clear hW0
  refine (snap_right_v _ p bl bv g l lv s HM.out hz _ hsr).mono ?_
  rintro r w1 ⟨rfl, hb⟩
  have HB := Lib.hid hb
  have Y1 := (Keeps.of_below (S := []) hb).blk HY.out.lt (by simp) HY.out
  clear y0 y1 y2 y3 hb
  obtain ⟨⟨y0, y1⟩, y2, y3⟩ := Y1.scells
  clear Y1
  go_wp2_with fail
  refine (map_geom w1 p bl bv g l lv (HM.out.grow HB.out)).mono ?_
  rintro r w2 ⟨rfl, hb2⟩
  have HB2 := Lib.hid hb2
  clear hb2 y0 y1 y2 y3
  go_wp2_with fail
  refine (geom_holds_b g z 0 w2 _ hh).mono ?_
  rintro r w3 ⟨rfl, hb3⟩
  have U3 : Below W0.heap.size W0 w3 := HB.out.trans ((HB2.out.trans (hb3.mono HB2.out.size)).mono HB.out.size)
  have Y3 := (Keeps.of_below (S := []) U3).blk HY.out.lt (by simp) HY.out
  have M3 := HM.out.grow U3
  obtain ⟨⟨y0, y1⟩, y2, y3⟩ := Y3.scells
  have HU3 := Lib.hid U3
  have HY3 := Lib.hid Y3
  have HM3 := Lib.hid M3
  have hlt := Y3.lt
  have hfrom := @From.cell w3
  obtain ⟨D, hD⟩ : ∃ D : Array Value, (bys (headB g s.nx)).toArray = D := ⟨_, rfl⟩
  have hhead := Lib.hid (fun W (x : Below w3.heap.size w3 W) => snap_head W p bl bv g l lv s (HM3.out.grow x) HO.out.right (by have := HO.out.nums; omega) (by have := HO.out.nums; omega))
  rw [hD] at hhead
  have HD := Lib.hid hD
  have HT : Hid (∀ w', Below w3.heap.size w3 w' → w'.cell? ⟨w.heap.size, 0, none⟩ = some (.int .i64 s.gen) ∧ w'.cell? ⟨w.heap.size, 1, none⟩ = some (.int .i64 s.ep) ∧ w'.cell? ⟨w.heap.size, 2, none⟩ = some (.int .i64 s.nx) ∧ w'.cell? ⟨w.heap.size, 3, none⟩ = some (.pointer (some ⟨p, 0, none⟩))) :=
    Lib.hid fun w' hb => by
      have := ((Keeps.of_below (S := []) hb).blk HY3.out.lt (by simp) HY3.out).scells
      exact ⟨this.1.1, this.1.2, this.2.1, this.2.2⟩
  clear hb3 U3 Y3 M3 HB HB2 hD
  go_wp2_with fail
  have hDs : D.size = 44 := by rw [← HD.out, List.size_toArray, bys_length, headB_length]
  obtain ⟨F, hF⟩ : ∃ F : Array Value, Fr5 4 z 0 s.ep s.gen ++ D = F := ⟨_, rfl⟩
  have hbuild := build_fold 4 z s.ep s.gen D F hDs hF
  have hFs : F.size = 49 := by rw [← hF, Array.size_append, hDs]; rfl
  have hF1 : F.all (·.oneCell') = true := by
    have := Fr.one (frameAt s g l z 0)
    rw [← hF, ← HD.out]
    exact this
  have hst : ∀ (W : World) (b : Nat), W.heap[b]? = some (.cells Z49 64 (0, 0)) → (storeCells ⟨b, 0, none⟩ F.toList 0).run Try.prog W = .ok () (W.setRow b F) := fun W b h => store_row W b _ Z49 F h (by rw [hFs]; rfl) hF1
  have hst1 : ∀ W : World, (storeCells ⟨W.heap.size, 0, none⟩ F.toList 0).run Try.prog (W.alloc (.cells Z49 64)) = .ok () (W.alloc (.cells F 64)) := fun W => run_storeCells_new W 64 Z49 F (by rw [hFs]; exact size_frame) (by rw [hFs]; rfl) hF1
  have HF := Lib.hid hF
  have HFS := Lib.hid hFs
  have HF1 := Lib.hid hF1
  clear hF hFs hF1
  go_cut [6] (fun f wx => CutF w3 F f wx)
  case first =>
    go_region_held3 (fun w' => w'.cell? ⟨w.heap.size, 0, none⟩ = some (.int .i64 s.gen) ∧ w'.cell? ⟨w.heap.size, 1, none⟩ = some (.int .i64 s.ep) ∧ w'.cell? ⟨w.heap.size, 2, none⟩ = some (.int .i64 s.nx) ∧ w'.cell? ⟨w.heap.size, 3, none⟩ = some (.pointer (some ⟨p, 0, none⟩))) (first | (go_keep; done) | exact HT.out _ ((below_drew (Below.refl _ _)).trans hb4) | exact HT.out _ ((below_drew (below_box w3 _)).trans (hb4.mono (by simp))) | exact HT.out _ (((below_drew (Below.refl _ _)).trans hb4).alloc hb4.size _) | exact HT.out _ (below_setRow ((below_drew (below_box w3 _)).trans (hb4.mono (by simp))) (Nat.le_refl _) _))
      (first | (go_at_call 80; refine (hhead.out _ (below_drew (Below.refl _ _))).mono ?_; rintro e w' ⟨rfl, hb4⟩; have tok := hb4) | (go_at_call 80; refine (hhead.out _ (below_drew ((Below.refl _ _).alloc (Nat.le_refl _) _))).mono ?_; rintro e w' ⟨rfl, hb4⟩; have hk : w'.heap[w3.heap.size]? = some (.cells Z49 64 (0, 0)) := (hb4.block _ (by simp)).trans (World.alloc_heap_new w3 _)))
    · go_wp2_with fail
      go_meet
      case rel => exact ⟨_, rfl, hb4.size, ((below_drew (Below.refl _ _)).trans hb4).alloc hb4.size _, Blk.newAt rfl⟩
    · go_wp2_with fail
      go_meet
      case rel => exact ⟨_, rfl, Nat.le_refl _, below_setRow ((below_drew (below_box w3 _)).trans (hb4.mono (by simp))) (Nat.le_refl _) _, setRow_heap w' w3.heap.size _ F _ (0, 0) hk⟩
  case rest =>
    obtain ⟨bf, rfl, n4, U4, F4⟩ := hcut
    obtain ⟨W4, rfl⟩ : ∃ W4 : World, W4 = wc := ⟨_, rfl⟩
    have zF4 := F4.lt
    have HF4 := Lib.hid F4
    have HU4 : Hid (Below w.heap.size w W4) := Lib.hid ((HU.out.trans ((HU3.out.trans (U4.mono HU3.out.size)).mono HU.out.size)))
    have HY4 := Lib.hid ((Keeps.of_below (S := []) U4).blk HY3.out.lt (by simp) HY3.out)
    have HM4 := Lib.hid (HM3.out.grow U4)
    have HN : Hid (w.heap.size < bf ∧ p < bf ∧ bl < bf ∧ bv < bf) := by
      have := HM3.out.lt
      exact Lib.hid ⟨by omega, by omega, by omega, by omega⟩
    clear U4 F4 HT hhead hfrom y0 y1 y2 y3 hst hst1 hbuild HU3 HY3 HM3 HY HU HM
    have hFi : (Try.prog.info? 64).map (·.size) = some F.size := by rw [HFS.out]; exact size_frame
    have HFI := Lib.hid hFi
    have hsf := slice_fold F HFS.out
    have hfs49 := HFS.out
    clear hFi
    obtain ⟨W5, hW5⟩ : ∃ W5, W4.alloc (.cells F 64) = W5 := ⟨_, rfl⟩
    have k5 : Keeps W4.heap.size [bf] W4 W5 := by rw [← hW5]; exact Keeps.of_below (below_box _ _)
    have h5 : W5.heap.size = W4.heap.size + 1 := by rw [← hW5]; simp
    have q5 : Blk W5 W4.heap.size 64 F := by rw [← hW5]; exact Blk.newAt rfl
    have hFa : F = (frameAt s g l z 0).arr := by rw [← HF.out, ← HD.out]; rfl
    have np : 1 ≤ nparts l := by unfold nparts; omega
    have L5 : FrL W4.heap.size W5 (.slice (some ⟨W4.heap.size, 0, none⟩) 1 1) ((frames s g l z).take 1) := by
      have e1 : (frames s g l z).take 1 = [frameAt s g l z 0] := by rw [frames_snoc _ _ _ _ _ np]; rfl
      have e2 : flatF [frameAt s g l z 0] = F.toList := by rw [hFa]; simp [flatF]
      unfold FrL
      rw [e1, e2]
      exact own_blk q5 (Nat.le_refl _) (Nat.le_refl _) (by unfold maxLen; omega) (by rw [HFS.out]) (by simpa using HFS.out) (by rw [List.take_of_length_le (by rw [Array.length_toList, HFS.out]; simp)])
    have F5 : Blk W5 bf 64 (frameAt s g l z 0).arr := by rw [← hFa, ← hW5]; exact HF4.out.alloc _
    have HL5 := Lib.hid L5
    have HF5 := Lib.hid F5
    have HK5 := Lib.hid k5
    have HNP := Lib.hid np
    clear hFa L5 F5 k5 q5 h5 np
    go_wp2_with (refine wpList_load_blk rfl 64 (.tmp 6) rfl bf 0 rfl HF4.out F (row_whole F) _ Try.underlying64 rfl HFI.out ?_)
    clear hW5 hsf hfs49
    go_loopw [7, 8] (fun v i wr => ∃ (k : Nat) (u : Value), 1 ≤ k ∧ k ≤ nparts l ∧ u = v ∧ i = .int .i64 k ∧ FrL W4.heap.size wr u ((frames s g l z).take k) ∧ Blk wr bf 64 (frameAt s g l z (k - 1)).arr ∧ Keeps W4.heap.size [bf] W4 wr) (fun _ i _ => nparts l - (intOf i).toNat)
    case atStart => exact ⟨1, _, Nat.le_refl _, HNP.out, rfl, rfl, HL5.out, HF5.out, HK5.out⟩
    case round =>
      obtain ⟨k, u, hk1, hkn, rfl, rfl, hL, hF', hK⟩ := hrel
      have hY := hK.blk (by have := HN.out; omega) (by have := HN.out; simp; omega) HY4.out
      have hM := HM4.out.keeps hK (by have := HN.out; simp; omega) (by have := HN.out; simp; omega) (by have := HN.out; simp; omega)
      have hB0 : 0 ≤ g.B := by have := HS.out.B0; omega
      have hB1 : g.B ≤ 1000000 := by have := HS.out.B1; omega
      obtain ⟨⟨y0, y1⟩, y2, y3⟩ := hY.scells
      have HLr := Lib.hid hL
      have HFr := Lib.hid hF'
      have HKr := Lib.hid hK
      have HYr := Lib.hid hY
      have HMr := Lib.hid hM
      have hpe : g.parts = (nparts l : Int) := by have := HO.out.len; unfold G.parts nparts; omega
      have hn1000 : nparts l ≤ 1000 := by have := HO.out.len; have := HS.out.B1; unfold nparts; omega
      have HPE := Lib.hid hpe
      clear hL hF' hK hY hM
      by_cases hlt : k < nparts l
      · have hpl : (k : Int) < g.parts := by omega
        clear hpe
        go_wp2_with fail
        refine (map_geom wr p bl bv g l lv HMr.out).mono ?_
        rintro r w5 ⟨rfl, hb5⟩
        obtain ⟨V5, hV5⟩ : ∃ V5, w5.alloc g.box = V5 := ⟨_, rfl⟩
        have b5 : Below wr.heap.size wr V5 := by rw [← hV5]; exact hb5.alloc hb5.size _
        have Y5 := (Keeps.of_below (S := []) b5).blk HYr.out.lt (by simp) HYr.out
        have HB5 := Lib.hid b5
        have HY5 := Lib.hid Y5
        clear y0 y1 y2 y3 b5 hb5
        obtain ⟨⟨y0, y1⟩, y2, y3⟩ := Y5.scells
        clear Y5
        go_wp2_with fail
        refine (geom_parts g w5 hB0 hB1).mono ?_
        rintro r w' ⟨rfl, rfl⟩
        rw [hV5]
        clear hV5
        go_wp2_with fail
        refine (snap_part V5 p bl bv g l lv s (HMr.out.grow HB5.out) HO.out.fits k hk1 (by have := HO.out.len; have := HS.out.B1; unfold nparts at hlt; omega)).mono ?_
        rintro r w6 ⟨rfl, hb6⟩
        obtain ⟨D2, hD2⟩ : ∃ D2 : Array Value, (bys (partB l k)).toArray = D2 := ⟨_, rfl⟩
        rw [hD2]
        have b6 : Below wr.heap.size wr w6 := HB5.out.trans (hb6.mono HB5.out.size)
        have F6 := (Keeps.of_below (S := []) b6).blk HFr.out.lt (by simp) HFr.out
        have hs6 := F6.lt
        have hsz6 := Fr.size (frameAt_ok s g l z (k - 1))
        obtain ⟨kd, hkd⟩ : ∃ kd, w6.cell? ⟨bf, 0, none⟩ = some (.int .i64 kd) := ⟨(frameAt s g l z (k - 1)).kd, by rw [F6.cell]; unfold Fr.arr; simp⟩
        obtain ⟨ko, hko⟩ : ∃ ko, w6.cell? ⟨bf, 2, none⟩ = some (.int .i64 ko) := ⟨(frameAt s g l z (k - 1)).off, by rw [F6.cell]; unfold Fr.arr; simp⟩
        have f0 := F6.frozen 0
        have f2 := F6.frozen 2
        obtain ⟨w7, hw7⟩ : ∃ w7, (w6.setCell ⟨bf, 0, none⟩ (.int .i64 5)).setCell ⟨bf, 2, none⟩ (.int .i64 k) = w7 := ⟨_, rfl⟩
        have F7 : Blk w7 bf 64 (((frameAt s g l z (k - 1)).arr.setIfInBounds 0 (.int .i64 5)).setIfInBounds 2 (.int .i64 k)) := by rw [← hw7]; exact (F6.set_ 0 _).set_ 2 _
        have K7 : Keeps wr.heap.size [bf] wr w7 := by rw [← hw7]; exact ((Keeps.of_below b6).setCell _ _ (.inl (by simp))).setCell _ _ (.inl (by simp))
        have hnx := frame_next s g l z k hk1
        rw [hD2] at hnx
        have hDs2 : D2.size = 44 := by rw [← hD2, List.size_toArray, bys_length, partB_length]
        have hDi2 : (Try.prog.info? 62).map (·.size) = some D2.size := by rw [hDs2]; exact size_body
        have hD12 : D2.all (·.oneCell') = true := by rw [← hD2]; exact all_oneCell_toArray (bys_one _)
        obtain ⟨F8, hF8⟩ : ∃ F8 : Array Value, (frameAt s g l z k).arr = F8 := ⟨_, rfl⟩
        rw [hF8] at hnx
        have hFs8 : F8.size = 49 := by rw [← hF8]; exact Fr.size (frameAt_ok s g l z k)
        have hFi8 : (Try.prog.info? 64).map (·.size) = some F8.size := by rw [hFs8]; exact size_frame
        have hsf8 := slice_fold F8 hFs8
        have hds2 := hDs2
        have hfs8 := hFs8
        have HF7 := Lib.hid F7
        have HK7 := Lib.hid K7
        have HNX := Lib.hid hnx
        have HDI2 := Lib.hid hDi2
        have HD12 := Lib.hid hD12
        have HDS2 := Lib.hid hDs2
        have HF8 := Lib.hid hF8
        have HFI8 := Lib.hid hFi8
        have HFS8 := Lib.hid hFs8
        have hfit : 5 + D2.size ≤ (((frameAt s g l z (k - 1)).arr.setIfInBounds 0 (.int .i64 5)).setIfInBounds 2 (.int .i64 k)).size := by rw [Array.size_setIfInBounds, Array.size_setIfInBounds, hsz6, hDs2]; exact Nat.le_refl _
        have HFIT := Lib.hid hfit
        clear hb6 b6 F6 F7 K7 hnx hD2 hDs2 hDi2 hD12 hF8 hFi8 hsz6 hfit y0 y1 y2 y3
        obtain ⟨i0, hi, hz0, hz1, hz2⟩ := info_parts info_frame
        have hrow0 : ∀ w8, Keeps w7.heap.size [bf] w7 w8 → w8.ownsRow W4.heap.size 64 49 u ((frames s g l z).take k).length (flatF ((frames s g l z).take k)) := fun w8 K8 =>
          own_keeps_v (HK7.out.trans (K8.mono HK7.out.size (fun i hi => hi))) (fun g' hg' => by have := World.ownsRow.lt HLr.out g' hg'; refine ⟨this.2, ?_⟩; simp; omega) HLr.out
        have HROW := Lib.hid hrow0
        have hlt8 : ((frames s g l z).take k).length = k := by rw [List.length_take, frames_length]; omega
        have HLT8 := Lib.hid hlt8
        clear hrow0 hlt8
        go_wp2_with (first
          | (refine wpList_store_blk rfl 62 (.tmp 44) (.tmp 41) rfl bf 5 D2 rfl rfl HF7.out HFIT.out HDI2.out HD12.out ?_
             intro w8 hG8 hK8 hs8
             have G8 : Hid (Blk w8 bf 64 F8) := by rw [← HNX.out]; exact hG8
             obtain ⟨w9, hw9⟩ : ∃ w9, w8.alloc (.cells F8 64) = w9 := ⟨_, rfl⟩
             have R9 : Hid (w9.ownsRow W4.heap.size 64 49 u ((frames s g l z).take k).length (flatF ((frames s g l z).take k))) := by rw [← hw9]; exact Lib.hid (World.ownsRow.alloc (HROW.out w8 hK8.out) _)
             have X9 : Hid (∀ j v, F8.toList[j]? = some v → w9.cell? ((⟨w8.heap.size, 0, none⟩ : Addr).add j) = some v) := by
               rw [← hw9]
               exact Lib.hid fun j v hv => by rw [Addr.add_nat_zero, cell_of_row _ _ j F8 _ (0, 0) (World.alloc_heap_new w8 _)]; simpa using hv
             have S9 : Hid (w9.heap.size = w8.heap.size + 1) := by rw [← hw9]; exact Lib.hid (by simp)
             have B9 : Hid (Below w8.heap.size w8 w9) := by rw [← hw9]; exact Lib.hid (below_box _ _)
             have Z8 : W4.heap.size ≤ w8.heap.size := by have := HKr.out.size; have := HK7.out.size; have := hK8.out.size; omega
             have G9 : Hid (Blk w9 bf 64 F8) := Lib.hid ((Keeps.of_below (S := []) B9.out).blk G8.out.lt (by simp) G8.out))
          | (refine wpList_load_blk rfl 64 (.tmp 6) rfl bf 0 rfl G8.out F8 (row_whole F8) _ Try.underlying64 rfl HFI8.out ?_)
          | (at_builtin; refine Hid.out ?_))
        refine Lib.hid ?_
        refine wpList_append_own _ rfl _ _ 58 rfl W4.heap.size 64 i0 (.agg Z49) 49 88 Try.underlying58 hi hz0 hz1 hz2 rfl (by omega) _ ((frames s g l z).take k).length (flatF ((frames s g l z).take k)) rfl R9.out ⟨w8.heap.size, 0, none⟩ 1 1 F8.toList rfl (by rw [Array.length_toList, HFS8.out]) X9.out ?c1 (by rw [HLT8.out]; unfold maxLen; omega) (by rw [HLT8.out]; omega) (by rw [S9.out]; omega) ?_
        rotate_left
        intro v' w10 hown' hgrow hnil
        case c1 => exact fun v hv => (Array.all_eq_true_iff_forall_mem.1 (HF8.out ▸ Fr.one (frameAt s g l z k))) v (by simpa using hv)
        have hne : u.ownBlock ≠ some bf := fun h => by have := (World.ownsRow.lt R9.out bf h).1; omega
        have F10 : Blk w10 bf 64 F8 := (World.grownBy.block hgrow bf (by rw [S9.out]; have := G8.out.lt; omega) (fun e => hne e.symm)).trans G9.out
        have K10 : Keeps W4.heap.size [bf] W4 w10 := by
          refine ((HKr.out.trans (HK7.out.mono HKr.out.size (fun i hi => hi))).trans ((hK8.out.mono (by have := HKr.out.size; have := HK7.out.size; omega) (fun i hi => hi)).trans (Keeps.of_below (B9.out.mono Z8)))).trans ⟨hgrow.os, hgrow.tape, hgrow.output, hgrow.size, fun i hi _ => hgrow.block i (by rw [S9.out]; omega) (fun e => by have := (World.ownsRow.lt R9.out i e.symm).1; omega)⟩
        have L10 : FrL W4.heap.size w10 v' ((frames s g l z).take (k + 1)) := by
          unfold FrL
          have e : flatF [frameAt s g l z k] = F8.toList := by rw [← HF8.out]; simp [flatF]
          rw [frames_snoc _ _ _ _ _ hlt, flatF_append, List.length_append, e]
          exact hown'
        have HL10 := Lib.hid L10
        have HF10 := Lib.hid F10
        have HK10 := Lib.hid K10
        clear hown' hgrow hnil L10 F10 K10
        go_wp2
        go_round
        case rel => exact ⟨k + 1, v', by omega, hlt, rfl, by simp, HL10.out, by rw [Nat.add_sub_cancel, HF8.out]; exact HF10.out, HK10.out⟩
        case measure => simp [intOf]; omega
      · have hpl : ¬ (k : Int) < g.parts := by omega
        obtain rfl : k = nparts l := by omega
        clear hpe
        go_wp2_with fail
        refine (map_geom wr p bl bv g l lv HMr.out).mono ?_
        rintro r w5 ⟨rfl, hb5⟩
        have HB5 := Lib.hid hb5
        clear hb5
        go_wp2_with fail
        refine (geom_parts g w5 hB0 hB1).mono ?_
        rintro r w' ⟨rfl, rfl⟩
        go_wp2
        go_ret2
        have hL := HLr.out
        rw [List.take_of_length_le (by rw [frames_length]; exact Nat.le_refl _)] at hL
        refine framesPost_fin (by rw [frames_length]; exact HNP.out) rfl HU4.out.size hL (HU4.out.trans (Keeps.below (HKr.out.mono HU4.out.size (fun i hi => hi)) (by simp; have := HN.out; omega))) (HB5.out.alloc HB5.out.size _)
end Go.Proofs.Ytcgafnmpfdkfoaa
