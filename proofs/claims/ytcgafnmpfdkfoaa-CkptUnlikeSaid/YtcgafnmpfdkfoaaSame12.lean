/- Are two snapshots the same: snap.Same. -/
import Derived.Test.YtcgafnmpfdkfoaaZones
namespace Go.Proofs.Ytcgafnmpfdkfoaa
open Go.RowKit

theorem holds00 {g : G} (h : g.right = true) : g.holds 0 0 = true := by
  have hs := G.small_of_right h
  have ha := hs.all_le
  have := hs.S0
  unfold G.holds
  rw [h]
  simp only [Bool.true_and, Bool.and_eq_true, wi_true]
  omega
/-- A snapshot's frames, if it may be. -/
def frOpt (s : Sn) (g : G) (l : List E) : Option (List Fr) := if s.right l = true then some (frames s g l 0) else none
/-- Frames for zone 0, whatever the snapshot. -/
def FrOptPost (w : World) (s : Sn) (g : G) (l : List E) (r : Ending) (w' : World) : Prop :=
  if s.right l = true then FramesPost w (frames s g l 0) r w' else (r = .returned (.tuple #[.slice none 0 0, .int .i64 10]) ∧ Below w.heap.size w w')
theorem rangeAt_row {w : World} {base b c : Nat} {fs : List Fr} (h : FrL base w (.slice (some ⟨b, 0, none⟩) fs.length c) fs) (hk : ∀ f ∈ fs, f.Ok) {i : Nat} {f : Fr} (hi : fs[i]? = some f) : w.rangeAt b (i * 49) f.arr.toList := by
  intro j v hv
  have hj := (List.getElem?_eq_some_iff.1 hv).1
  rw [Array.length_toList, Fr.size (hk f (List.mem_of_getElem? hi))] at hj
  rw [h.cells hk hi j hj]
  simpa using hv
theorem rangeAt_below {w w1 : World} {b o : Nat} {cs : List Value} (h : w.rangeAt b o cs) (hb : b < w.heap.size) (k : Below w.heap.size w w1) : w1.rangeAt b o cs := fun j v hv => (k.cell (p := ⟨b, o + j, none⟩) hb).trans (h j v hv)

set_option maxRecDepth 100000 in
theorem same_parts (w : World) (p bl bv : Nat) (g : G) (l : List E) (lv : List Int) (s : Sn) (hM : MapAt w p bl bv g l lv) (hO : MapOk g l lv) (p' bl' bv' : Nat) (g' : G) (l' : List E) (lv' : List Int) (s' : Sn) (hM' : MapAt w p' bl' bv' g' l' lv') (hO' : MapOk g' l' lv')
    (h : s.right l = false ∨ s'.right l' = false) :
    Calls Try.prog 45 #[s.v p, s'.v p'] w fun r w' => r = .returned (.bool (decide (frOpt s g l = frOpt s' g' l'))) ∧ Below w.heap.size w w' := by
  obtain ⟨V0, hV0⟩ : ∃ V0, (w.alloc (s.box p)).alloc (s'.box p') = V0 := ⟨_, rfl⟩
  have U0 : Below w.heap.size w V0 := by rw [← hV0]; exact (below_box _ _).alloc (by simp) _
  have k0 : Blk V0 w.heap.size 53 (s.arr p) := by rw [← hV0]; exact (Blk.newAt rfl).alloc _
  have k1 : Blk V0 (w.heap.size + 1) 53 (s'.arr p') := by rw [← hV0]; exact Blk.newAt (by simp)
  have HU := Lib.hid U0
  have K1 := Lib.hid k1
  have HM := Lib.hid (hM.grow U0)
  have HM' := Lib.hid (hM'.grow U0)
  have HO := Lib.hid hO
  have HO' := Lib.hid hO'
  obtain ⟨⟨y0, y1⟩, y2, y3⟩ := k0.scells
  clear U0 k0 k1 hM hM' hO hO'
  have hc1 := Lib.hid (fun W (hb : Below V0.heap.size V0 W) => frames_err W p bl bv g l lv s (HM.out.grow hb) HO.out.len1000 0)
  have hc2 := Lib.hid (fun W (hb : Below V0.heap.size V0 W) => frames_err W p' bl' bv' g' l' lv' s' (HM'.out.grow hb) HO'.out.len1000 0)
  have hy1 := Lib.hid (fun W (hb : Below V0.heap.size V0 W) (hs : s.right l = true) => frames_yes W p bl bv g l lv s (HM.out.grow hb) (HO.out.sn hs) 0 (holds00 HO.out.right))
  have hy2 := Lib.hid (fun W (hb : Below V0.heap.size V0 W) (hs : s'.right l' = true) => frames_yes W p' bl' bv' g' l' lv' s' (HM'.out.grow hb) (HO'.out.sn hs) 0 (holds00 HO'.out.right))
  cases hs : s.right l with
  | false =>
    go_enter Try.func45, Try.ntmps45
    go_wp2_with fail
    clear hV0
    refine (hc1.out _ (Below.refl _ _) (.inl hs)).mono ?_
    rintro r w1 ⟨rfl, hb1⟩
    have k2 := (Keeps.of_below (S := []) hb1).blk K1.out.lt (by simp) K1.out
    have H1 := Lib.hid hb1
    clear y0 y1 y2 y3 hb1
    obtain ⟨⟨y0, y1⟩, y2, y3⟩ := k2.scells
    clear k2
    go_wp2_with fail
    cases hs' : s'.right l' with
    | false =>
      have hd : decide (frOpt s g l = frOpt s' g' l') = true := by unfold frOpt; rw [hs, hs']; simp
      refine (hc2.out _ H1.out (.inl hs')).mono ?_
      rintro r w2 ⟨rfl, hb2⟩
      have HD := Lib.hid hd
      have U2 := Lib.hid (HU.out.trans ((H1.out.trans (hb2.mono H1.out.size)).mono HU.out.size))
      clear hd hb2
      go_wp2
      go_loop [32] (fun i => i = .int .i64 0) (fun _ => 0)
      case atStart => rfl
      case round =>
        subst hrel
        go_wp2
        go_ret
        exact ⟨by rw [HD.out]; rfl, U2.out⟩
    | true =>
      have hd : decide (frOpt s g l = frOpt s' g' l') = false := by unfold frOpt; rw [hs, hs']; simp
      refine (hy2.out _ H1.out hs').mono ?_
      rintro r w2 ⟨b2, c2, rfl, _, _, hb2⟩
      have HD := Lib.hid hd
      have U2 := Lib.hid (HU.out.trans ((H1.out.trans (hb2.mono H1.out.size)).mono HU.out.size))
      clear hd hb2
      go_wp2
      go_ret
      exact ⟨by rw [HD.out]; rfl, U2.out⟩
  | true =>
    have hs' : s'.right l' = false := h.resolve_left (by rw [hs]; simp)
    have hd : decide (frOpt s g l = frOpt s' g' l') = false := by unfold frOpt; rw [hs, hs']; simp
    have HD := Lib.hid hd
    clear hd
    go_enter Try.func45, Try.ntmps45
    go_wp2_with fail
    clear hV0
    refine (hy1.out _ (Below.refl _ _) hs).mono ?_
    rintro r w1 ⟨b1, c1, rfl, _, _, hb1⟩
    have k2 := (Keeps.of_below (S := []) hb1).blk K1.out.lt (by simp) K1.out
    have H1 := Lib.hid hb1
    clear y0 y1 y2 y3 hb1
    obtain ⟨⟨y0, y1⟩, y2, y3⟩ := k2.scells
    clear k2
    go_wp2_with fail
    refine (hc2.out _ H1.out (.inl hs')).mono ?_
    rintro r w2 ⟨rfl, hb2⟩
    have U2 := Lib.hid (HU.out.trans ((H1.out.trans (hb2.mono H1.out.size)).mono HU.out.size))
    clear hb2
    go_wp2
    go_ret
    exact ⟨by rw [HD.out]; rfl, U2.out⟩

set_option maxRecDepth 100000 in
set_option maxHeartbeats 1000000 in
theorem same_both (w : World) (p bl bv : Nat) (g : G) (l : List E) (lv : List Int) (s : Sn) (hM : MapAt w p bl bv g l lv) (hO : MapOk g l lv) (p' bl' bv' : Nat) (g' : G) (l' : List E) (lv' : List Int) (s' : Sn) (hM' : MapAt w p' bl' bv' g' l' lv') (hO' : MapOk g' l' lv')
    (hs : s.right l = true) (hs' : s'.right l' = true) :
    Calls Try.prog 45 #[s.v p, s'.v p'] w fun r w' => r = .returned (.bool (decide (frOpt s g l = frOpt s' g' l'))) ∧ Below w.heap.size w w' := by
  have hdf : frOpt s g l = some (frames s g l 0) ∧ frOpt s' g' l' = some (frames s' g' l' 0) := by unfold frOpt; rw [hs, hs']; exact ⟨rfl, rfl⟩
  have hdd : decide (frOpt s g l = frOpt s' g' l') = decide (frames s g l 0 = frames s' g' l' 0) := by rw [hdf.1, hdf.2]; simp
  rw [hdd]
  clear hdf hdd
  have okX := Lib.hid (frames_ok s g l 0)
  have okY := Lib.hid (frames_ok s' g' l' 0)
  have lx := hO.len1000
  have ly := hO'.len1000
  have nx : (frames s g l 0).length ≤ 1000 := by rw [frames_length]; unfold nparts; omega
  have ny : (frames s' g' l' 0).length ≤ 1000 := by rw [frames_length]; unfold nparts; omega
  obtain ⟨V0, hV0⟩ : ∃ V0, (w.alloc (s.box p)).alloc (s'.box p') = V0 := ⟨_, rfl⟩
  have U0 : Below w.heap.size w V0 := by rw [← hV0]; exact (below_box _ _).alloc (by simp) _
  have k0 : Blk V0 w.heap.size 53 (s.arr p) := by rw [← hV0]; exact (Blk.newAt rfl).alloc _
  have k1 : Blk V0 (w.heap.size + 1) 53 (s'.arr p') := by rw [← hV0]; exact Blk.newAt (by simp)
  have HU := Lib.hid U0
  have K1 := Lib.hid k1
  have HM := Lib.hid (hM.grow U0)
  have HM' := Lib.hid (hM'.grow U0)
  obtain ⟨⟨y0, y1⟩, y2, y3⟩ := k0.scells
  have hy1 := Lib.hid (frames_yes V0 p bl bv g l lv s HM.out (hO.sn hs) 0 (holds00 hO.right))
  have hy2 := Lib.hid (fun W (hb : Below V0.heap.size V0 W) => frames_yes W p' bl' bv' g' l' lv' s' (HM'.out.grow hb) (hO'.sn hs') 0 (holds00 hO'.right))
  clear U0 k0 k1 hM hM' hO hO' lx ly
  generalize frames s g l 0 = fx at *
  generalize frames s' g' l' 0 = fy at *
  go_enter Try.func45, Try.ntmps45
  go_wp2_with fail
  clear hV0
  refine hy1.out.mono ?_
  rintro r w1 ⟨b1, c1, rfl, _, hL1, hb1⟩
  have k2 := (Keeps.of_below (S := []) hb1).blk K1.out.lt (by simp) K1.out
  have H1 := Lib.hid hb1
  have L1 := Lib.hid hL1
  clear y0 y1 y2 y3 hb1 hL1
  obtain ⟨⟨y0, y1⟩, y2, y3⟩ := k2.scells
  clear k2
  go_wp2_with fail
  refine (hy2.out _ H1.out).mono ?_
  rintro r w2 ⟨b2, c2, rfl, _, hL2, hb2⟩
  have U2 := Lib.hid (HU.out.trans ((H1.out.trans (hb2.mono H1.out.size)).mono HU.out.size))
  have L2 := Lib.hid ((own_grow L1.out hb2).1)
  have L3 := Lib.hid hL2
  clear y0 y1 y2 y3 hb2 hL2 hy1 hy2
  by_cases hlen : fx.length = fy.length
  · have hle := Lib.hid hlen
    have hle' : ((fx.length : Int) == (fy.length : Int)) = true := by simp [hlen]
    have hle2 : ((fx.length : Int) != (fy.length : Int)) = false := by simp [hlen]
    clear hlen
    go_wp2
    go_loopw [32] (fun i wr => ∃ k : Nat, k ≤ fx.length ∧ i = .int .i64 k ∧ fx.take k = fy.take k ∧ Below w2.heap.size w2 wr) (fun i _ => fx.length - (intOf i).toNat)
    case atStart => exact ⟨0, Nat.zero_le _, rfl, rfl, Below.refl _ _⟩
    case round =>
      obtain ⟨k, hk, rfl, ht, hB⟩ := hrel
      by_cases hlt : k < fx.length
      · have hlt' : k < fy.length := by rw [← hle.out]; exact hlt
        obtain ⟨f, hf⟩ : ∃ f, fx[k]? = some f := ⟨_, List.getElem?_eq_getElem hlt⟩
        obtain ⟨h, hh⟩ : ∃ h, fy[k]? = some h := ⟨_, List.getElem?_eq_getElem hlt'⟩
        have o5 := (own_grow L2.out hB).1
        have o6 := (own_grow L3.out hB).1
        have rX := rangeAt_row o5 okX.out hf
        have rY := rangeAt_row o6 okY.out hh
        have ltX := FrL.lt o5
        have ltY := FrL.lt o6
        have fok := okX.out f (List.mem_of_getElem? hf)
        have hok := okY.out h (List.mem_of_getElem? hh)
        have hszX := Fr.size fok
        have hszY := Fr.size hok
        have heq := fun W => frame_eq f h fok hok W
        have hl1 : ∀ W, (∃ x : From wr, W = x.val) → W.rangeAt b1 (k * 49) f.arr.toList := by
          rintro _ ⟨x, rfl⟩; exact rangeAt_below rX ltX x.below
        have hl2 : ∀ W, (∃ x : From wr, W = x.val) → W.rangeAt b2 (k * 49) h.arr.toList := by
          rintro _ ⟨x, rfl⟩; exact rangeAt_below rY ltY x.below
        have hiX : (Try.prog.info? 64).map (·.size) = some f.arr.size := by rw [hszX]; exact size_frame
        have hiY : (Try.prog.info? 64).map (·.size) = some h.arr.size := by rw [hszY]; exact size_frame
        have hfx : fx.take (k + 1) = fx.take k ++ [f] := by rw [List.take_add_one, hf]; rfl
        have hfy : fy.take (k + 1) = fy.take k ++ [h] := by rw [List.take_add_one, hh]; rfl
        have HF := Lib.hid hf
        have HH := Lib.hid hh
        generalize f.arr = X at *
        generalize h.arr = Y at *
        have HL1 := Lib.hid hl1
        have HL2 := Lib.hid hl2
        have HIX := Lib.hid hiX
        have HIY := Lib.hid hiY
        have HT := Lib.hid ht
        have HFX := Lib.hid hfx
        have HFY := Lib.hid hfy
        have HB := Lib.hid hB
        clear hl1 hl2 hiX hiY ht hfx hfy o5 o6 rX rY fok hok hf hh hB
        have hfrom := @From.cell wr
        by_cases hfh : f = h
        · have heq' : ∀ W, (Op.equalIn 10000 64 (.agg X) (.agg Y)).run Try.prog W = .ok true W := fun W => by rw [heq W, hfh]; simp
          have HFH := Lib.hid hfh
          clear heq hfh
          go_wp2_with fail
          refine region_from (by kernel_rfl) (by kernel_rfl) ?_
          repeat (first
            | (go_big_quiet_want; refine quiet_load 64 (.tmp 37) rfl b1 (k * 49) rfl X HL1.out _ Try.underlying64 rfl HIX.out ?_; go_simp; go_big_quiet_on)
            | (go_big_quiet_want; refine quiet_load 64 (.tmp 41) rfl b2 (k * 49) rfl Y HL2.out _ Try.underlying64 rfl HIY.out ?_; go_simp; go_big_quiet_on)
            | (go_big_quiet_step (fail)))
          refine wpQuiet_nil ?_
          intro W hW
          have HW : Hid (Below w2.heap.size w2 W) := Lib.hid (HB.out.trans (hW.mono HB.out.size))
          clear hW hfrom heq'
          go_wp2
          go_roundw
          case rel => exact ⟨k + 1, by omega, by simp, by rw [HFX.out, HFY.out, HT.out, HFH.out], HW.out⟩
          case measure => simp [intOf]; omega
        · have heq' : ∀ W, (Op.equalIn 10000 64 (.agg X) (.agg Y)).run Try.prog W = .ok false W := fun W => by rw [heq W, decide_eq_false hfh]
          have hne : decide (fx = fy) = false := by
            rw [decide_eq_false_iff_not]
            rintro rfl
            have := HF.out.symm.trans HH.out
            injection this with this
            exact hfh this
          have HNE := Lib.hid hne
          clear heq hne hfh
          go_wp2_with fail
          refine region_from (by kernel_rfl) (by kernel_rfl) ?_
          repeat (first
            | (go_big_quiet_want; refine quiet_load 64 (.tmp 37) rfl b1 (k * 49) rfl X HL1.out _ Try.underlying64 rfl HIX.out ?_; go_simp; go_big_quiet_on)
            | (go_big_quiet_want; refine quiet_load 64 (.tmp 41) rfl b2 (k * 49) rfl Y HL2.out _ Try.underlying64 rfl HIY.out ?_; go_simp; go_big_quiet_on)
            | (go_big_quiet_step (fail)))
          refine wpQuiet_nil ?_
          intro W hW
          have HW : Hid (Below w2.heap.size w2 W) := Lib.hid (HB.out.trans (hW.mono HB.out.size))
          clear hW hfrom heq'
          go_wp2
          go_ret
          exact ⟨by rw [HNE.out]; rfl, U2.out.trans (HW.out.mono U2.out.size)⟩
      · obtain rfl : k = fx.length := by omega
        have hd : decide (fx = fy) = true := by
          rw [List.take_of_length_le (Nat.le_refl _), List.take_of_length_le (by rw [hle.out]; exact Nat.le_refl _)] at ht
          rw [decide_eq_true_eq]; exact ht
        have HD := Lib.hid hd
        have HB := Lib.hid hB
        clear hd ht hB
        go_wp2
        go_ret
        exact ⟨by rw [HD.out]; rfl, U2.out.trans (HB.out.mono U2.out.size)⟩
  · have hd : decide (fx = fy) = false := by
      rw [decide_eq_false_iff_not]
      rintro rfl
      exact hlen rfl
    have HD := Lib.hid hd
    have hle2 : ((fx.length : Int) != (fy.length : Int)) = true := by simp; omega
    clear hd hlen
    go_wp2
    go_ret
    exact ⟨by rw [HD.out]; rfl, U2.out⟩
theorem snap_same (w : World) (p bl bv : Nat) (g : G) (l : List E) (lv : List Int) (s : Sn) (hM : MapAt w p bl bv g l lv) (hO : MapOk g l lv) (p' bl' bv' : Nat) (g' : G) (l' : List E) (lv' : List Int) (s' : Sn) (hM' : MapAt w p' bl' bv' g' l' lv') (hO' : MapOk g' l' lv') :
    Calls Try.prog 45 #[s.v p, s'.v p'] w fun r w' => r = .returned (.bool (decide (frOpt s g l = frOpt s' g' l'))) ∧ Below w.heap.size w w' := by
  cases hs : s.right l with
  | false => exact same_parts w p bl bv g l lv s hM hO p' bl' bv' g' l' lv' s' hM' hO' (.inl hs)
  | true =>
    cases hs' : s'.right l' with
    | false => exact same_parts w p bl bv g l lv s hM hO p' bl' bv' g' l' lv' s' hM' hO' (.inr hs')
    | true => exact same_both w p bl bv g l lv s hM hO p' bl' bv' g' l' lv' s' hM' hO' hs hs'
end Go.Proofs.Ytcgafnmpfdkfoaa
