/- What the law CkptMoved stands on, part 2: Same12, Secs, Ref12, RefB, Made13, Vote0, Vote1, Sort. No condition. -/
import Derived.Test.YtcgafnmpfdkfoaaEnc2
import Derived.Test.YtcgafnmpfdkfoaaSnap2
import Derived.Test.YtcgafnmpfdkfoaaIter4
import Derived.Test.YtcgafnmpfdkfoaaTail
import Derived.Test.YtcgafnmpfdkfoaaMap2
import Derived.Test.YtcgafnmpfdkfoaaBody
import Derived.Shelf.Abstract
import Derived.Test.YtcgafnmpfdkfoaaMap3
import Derived.Shelf.Sort.Plain
import Derived.Shelf.Slices.In.SortNone
import Derived.Sort.OwnSorted
import Derived.Test.YtcgafnmpfdkfoaaCkptMovedJ1
/- Are two snapshots the same: snap.Same. -/
namespace Go.Proofs.Ytcgafnmpfdkfoaa
open Go.RowKit

theorem holds00 {g : G} (h : g.right = true) : g.holds 0 0 = true := by
  have hs := G.small_of_right h
  have ha := hs.all_le
  have := hs.S0
  unfold G.holds
  rw [h]
  simp only [Bool.true_and, Bool.and_eq_true, wi_true]
  omega
/-- A snapshot's frames, if it may be. -/
def frOpt (s : Sn) (g : G) (l : List E) : Option (List Fr) := if s.right l = true then some (frames s g l 0) else none
/-- Frames for zone 0, whatever the snapshot. -/
def FrOptPost (w : World) (s : Sn) (g : G) (l : List E) (r : Ending) (w' : World) : Prop :=
  if s.right l = true then FramesPost w (frames s g l 0) r w' else (r = .returned (.tuple #[.slice none 0 0, .int .i64 10]) ∧ Below w.heap.size w w')
theorem rangeAt_row {w : World} {base b c : Nat} {fs : List Fr} (h : FrL base w (.slice (some ⟨b, 0, none⟩) fs.length c) fs) (hk : ∀ f ∈ fs, f.Ok) {i : Nat} {f : Fr} (hi : fs[i]? = some f) : w.rangeAt b (i * 49) f.arr.toList := by
  intro j v hv
  have hj := (List.getElem?_eq_some_iff.1 hv).1
  rw [Array.length_toList, Fr.size (hk f (List.mem_of_getElem? hi))] at hj
  rw [h.cells hk hi j hj]
  simpa using hv
theorem rangeAt_below {w w1 : World} {b o : Nat} {cs : List Value} (h : w.rangeAt b o cs) (hb : b < w.heap.size) (k : Below w.heap.size w w1) : w1.rangeAt b o cs := fun j v hv => (k.cell (p := ⟨b, o + j, none⟩) hb).trans (h j v hv)

set_option maxRecDepth 100000 in
theorem same_parts (w : World) (p bl bv : Nat) (g : G) (l : List E) (lv : List Int) (s : Sn) (hM : MapAt w p bl bv g l lv) (hO : MapOk g l lv) (p' bl' bv' : Nat) (g' : G) (l' : List E) (lv' : List Int) (s' : Sn) (hM' : MapAt w p' bl' bv' g' l' lv') (hO' : MapOk g' l' lv')
    (h : s.right l = false ∨ s'.right l' = false) :
    Calls Try.prog 45 #[s.v p, s'.v p'] w fun r w' => r = .returned (.bool (decide (frOpt s g l = frOpt s' g' l'))) ∧ Below w.heap.size w w' := by
  obtain ⟨V0, hV0⟩ : ∃ V0, (w.alloc (s.box p)).alloc (s'.box p') = V0 := ⟨_, rfl⟩
  have U0 : Below w.heap.size w V0 := by rw [← hV0]; exact (below_box _ _).alloc (by simp) _
  have k0 : Blk V0 w.heap.size 53 (s.arr p) := by rw [← hV0]; exact (Blk.newAt rfl).alloc _
  have k1 : Blk V0 (w.heap.size + 1) 53 (s'.arr p') := by rw [← hV0]; exact Blk.newAt (by simp)
  have HU := Lib.hid U0
  have K1 := Lib.hid k1
  have HM := Lib.hid (hM.grow U0)
  have HM' := Lib.hid (hM'.grow U0)
  have HO := Lib.hid hO
  have HO' := Lib.hid hO'
  obtain ⟨⟨y0, y1⟩, y2, y3⟩ := k0.scells
  clear U0 k0 k1 hM hM' hO hO'
  have hc1 := Lib.hid (fun W (hb : Below V0.heap.size V0 W) => frames_err W p bl bv g l lv s (HM.out.grow hb) HO.out.len1000 0)
  have hc2 := Lib.hid (fun W (hb : Below V0.heap.size V0 W) => frames_err W p' bl' bv' g' l' lv' s' (HM'.out.grow hb) HO'.out.len1000 0)
  have hy1 := Lib.hid (fun W (hb : Below V0.heap.size V0 W) (hs : s.right l = true) => frames_yes W p bl bv g l lv s (HM.out.grow hb) (HO.out.sn hs) 0 (holds00 HO.out.right))
  have hy2 := Lib.hid (fun W (hb : Below V0.heap.size V0 W) (hs : s'.right l' = true) => frames_yes W p' bl' bv' g' l' lv' s' (HM'.out.grow hb) (HO'.out.sn hs) 0 (holds00 HO'.out.right))
  cases hs : s.right l with
  | false =>
    go_enter Try.func45, Try.ntmps45
    go_wp2_with fail
    clear hV0
    refine (hc1.out _ (Below.refl _ _) (.inl hs)).mono ?_
    rintro r w1 ⟨rfl, hb1⟩
    have k2 := (Keeps.of_below (S := []) hb1).blk K1.out.lt (by simp) K1.out
    have H1 := Lib.hid hb1
    clear y0 y1 y2 y3 hb1
    obtain ⟨⟨y0, y1⟩, y2, y3⟩ := k2.scells
    clear k2
    go_wp2_with fail
    cases hs' : s'.right l' with
    | false =>
      have hd : decide (frOpt s g l = frOpt s' g' l') = true := by unfold frOpt; rw [hs, hs']; simp
      refine (hc2.out _ H1.out (.inl hs')).mono ?_
      rintro r w2 ⟨rfl, hb2⟩
      have HD := Lib.hid hd
      have U2 := Lib.hid (HU.out.trans ((H1.out.trans (hb2.mono H1.out.size)).mono HU.out.size))
      clear hd hb2
      go_wp2
      go_loop [32] (fun i => i = .int .i64 0) (fun _ => 0)
      case atStart => rfl
      case round =>
        subst hrel
        go_wp2
        go_ret
        exact ⟨by rw [HD.out]; rfl, U2.out⟩
    | true =>
      have hd : decide (frOpt s g l = frOpt s' g' l') = false := by unfold frOpt; rw [hs, hs']; simp
      refine (hy2.out _ H1.out hs').mono ?_
      rintro r w2 ⟨b2, c2, rfl, _, _, hb2⟩
      have HD := Lib.hid hd
      have U2 := Lib.hid (HU.out.trans ((H1.out.trans (hb2.mono H1.out.size)).mono HU.out.size))
      clear hd hb2
      go_wp2
      go_ret
      exact ⟨by rw [HD.out]; rfl, U2.out⟩
  | true =>
    have hs' : s'.right l' = false := h.resolve_left (by rw [hs]; simp)
    have hd : decide (frOpt s g l = frOpt s' g' l') = false := by unfold frOpt; rw [hs, hs']; simp
    have HD := Lib.hid hd
    clear hd
    go_enter Try.func45, Try.ntmps45
    go_wp2_with fail
    clear hV0
    refine (hy1.out _ (Below.refl _ _) hs).mono ?_
    rintro r w1 ⟨b1, c1, rfl, _, _, hb1⟩
    have k2 := (Keeps.of_below (S := []) hb1).blk K1.out.lt (by simp) K1.out
    have H1 := Lib.hid hb1
    clear y0 y1 y2 y3 hb1
    obtain ⟨⟨y0, y1⟩, y2, y3⟩ := k2.scells
    clear k2
    go_wp2_with fail
    refine (hc2.out _ H1.out (.inl hs')).mono ?_
    rintro r w2 ⟨rfl, hb2⟩
    have U2 := Lib.hid (HU.out.trans ((H1.out.trans (hb2.mono H1.out.size)).mono HU.out.size))
    clear hb2
    go_wp2
    go_ret
    exact ⟨by rw [HD.out]; rfl, U2.out⟩

set_option maxRecDepth 100000 in
set_option maxHeartbeats 1000000 in
theorem same_both (w : World) (p bl bv : Nat) (g : G) (l : List E) (lv : List Int) (s : Sn) (hM : MapAt w p bl bv g l lv) (hO : MapOk g l lv) (p' bl' bv' : Nat) (g' : G) (l' : List E) (lv' : List Int) (s' : Sn) (hM' : MapAt w p' bl' bv' g' l' lv') (hO' : MapOk g' l' lv')
    (hs : s.right l = true) (hs' : s'.right l' = true) :
    Calls Try.prog 45 #[s.v p, s'.v p'] w fun r w' => r = .returned (.bool (decide (frOpt s g l = frOpt s' g' l'))) ∧ Below w.heap.size w w' := by
  have hdf : frOpt s g l = some (frames s g l 0) ∧ frOpt s' g' l' = some (frames s' g' l' 0) := by unfold frOpt; rw [hs, hs']; exact ⟨rfl, rfl⟩
  have hdd : decide (frOpt s g l = frOpt s' g' l') = decide (frames s g l 0 = frames s' g' l' 0) := by rw [hdf.1, hdf.2]; simp
  rw [hdd]
  clear hdf hdd
  have okX := Lib.hid (frames_ok s g l 0)
  have okY := Lib.hid (frames_ok s' g' l' 0)
  have lx := hO.len1000
  have ly := hO'.len1000
  have nx : (frames s g l 0).length ≤ 1000 := by rw [frames_length]; unfold nparts; omega
  have ny : (frames s' g' l' 0).length ≤ 1000 := by rw [frames_length]; unfold nparts; omega
  obtain ⟨V0, hV0⟩ : ∃ V0, (w.alloc (s.box p)).alloc (s'.box p') = V0 := ⟨_, rfl⟩
  have U0 : Below w.heap.size w V0 := by rw [← hV0]; exact (below_box _ _).alloc (by simp) _
  have k0 : Blk V0 w.heap.size 53 (s.arr p) := by rw [← hV0]; exact (Blk.newAt rfl).alloc _
  have k1 : Blk V0 (w.heap.size + 1) 53 (s'.arr p') := by rw [← hV0]; exact Blk.newAt (by simp)
  have HU := Lib.hid U0
  have K1 := Lib.hid k1
  have HM := Lib.hid (hM.grow U0)
  have HM' := Lib.hid (hM'.grow U0)
  obtain ⟨⟨y0, y1⟩, y2, y3⟩ := k0.scells
  have hy1 := Lib.hid (frames_yes V0 p bl bv g l lv s HM.out (hO.sn hs) 0 (holds00 hO.right))
  have hy2 := Lib.hid (fun W (hb : Below V0.heap.size V0 W) => frames_yes W p' bl' bv' g' l' lv' s' (HM'.out.grow hb) (hO'.sn hs') 0 (holds00 hO'.right))
  clear U0 k0 k1 hM hM' hO hO' lx ly
  generalize frames s g l 0 = fx at *
  generalize frames s' g' l' 0 = fy at *
  go_enter Try.func45, Try.ntmps45
  go_wp2_with fail
  clear hV0
  refine hy1.out.mono ?_
  rintro r w1 ⟨b1, c1, rfl, _, hL1, hb1⟩
  have k2 := (Keeps.of_below (S := []) hb1).blk K1.out.lt (by simp) K1.out
  have H1 := Lib.hid hb1
  have L1 := Lib.hid hL1
  clear y0 y1 y2 y3 hb1 hL1
  obtain ⟨⟨y0, y1⟩, y2, y3⟩ := k2.scells
  clear k2
  go_wp2_with fail
  refine (hy2.out _ H1.out).mono ?_
  rintro r w2 ⟨b2, c2, rfl, _, hL2, hb2⟩
  have U2 := Lib.hid (HU.out.trans ((H1.out.trans (hb2.mono H1.out.size)).mono HU.out.size))
  have L2 := Lib.hid ((own_grow L1.out hb2).1)
  have L3 := Lib.hid hL2
  clear y0 y1 y2 y3 hb2 hL2 hy1 hy2
  by_cases hlen : fx.length = fy.length
  · have hle := Lib.hid hlen
    have hle' : ((fx.length : Int) == (fy.length : Int)) = true := by simp [hlen]
    have hle2 : ((fx.length : Int) != (fy.length : Int)) = false := by simp [hlen]
    clear hlen
    go_wp2
    go_loopw [32] (fun i wr => ∃ k : Nat, k ≤ fx.length ∧ i = .int .i64 k ∧ fx.take k = fy.take k ∧ Below w2.heap.size w2 wr) (fun i _ => fx.length - (intOf i).toNat)
    case atStart => exact ⟨0, Nat.zero_le _, rfl, rfl, Below.refl _ _⟩
    case round =>
      obtain ⟨k, hk, rfl, ht, hB⟩ := hrel
      by_cases hlt : k < fx.length
      · have hlt' : k < fy.length := by rw [← hle.out]; exact hlt
        obtain ⟨f, hf⟩ : ∃ f, fx[k]? = some f := ⟨_, List.getElem?_eq_getElem hlt⟩
        obtain ⟨h, hh⟩ : ∃ h, fy[k]? = some h := ⟨_, List.getElem?_eq_getElem hlt'⟩
        have o5 := (own_grow L2.out hB).1
        have o6 := (own_grow L3.out hB).1
        have rX := rangeAt_row o5 okX.out hf
        have rY := rangeAt_row o6 okY.out hh
        have ltX := FrL.lt o5
        have ltY := FrL.lt o6
        have fok := okX.out f (List.mem_of_getElem? hf)
        have hok := okY.out h (List.mem_of_getElem? hh)
        have hszX := Fr.size fok
        have hszY := Fr.size hok
        have heq := fun W => frame_eq f h fok hok W
        have hl1 : ∀ W, (∃ x : From wr, W = x.val) → W.rangeAt b1 (k * 49) f.arr.toList := by
          rintro _ ⟨x, rfl⟩; exact rangeAt_below rX ltX x.below
        have hl2 : ∀ W, (∃ x : From wr, W = x.val) → W.rangeAt b2 (k * 49) h.arr.toList := by
          rintro _ ⟨x, rfl⟩; exact rangeAt_below rY ltY x.below
        have hiX : (Try.prog.info? 64).map (·.size) = some f.arr.size := by rw [hszX]; exact size_frame
        have hiY : (Try.prog.info? 64).map (·.size) = some h.arr.size := by rw [hszY]; exact size_frame
        have hfx : fx.take (k + 1) = fx.take k ++ [f] := by rw [List.take_add_one, hf]; rfl
        have hfy : fy.take (k + 1) = fy.take k ++ [h] := by rw [List.take_add_one, hh]; rfl
        have HF := Lib.hid hf
        have HH := Lib.hid hh
        generalize f.arr = X at *
        generalize h.arr = Y at *
        have HL1 := Lib.hid hl1
        have HL2 := Lib.hid hl2
        have HIX := Lib.hid hiX
        have HIY := Lib.hid hiY
        have HT := Lib.hid ht
        have HFX := Lib.hid hfx
        have HFY := Lib.hid hfy
        have HB := Lib.hid hB
        clear hl1 hl2 hiX hiY ht hfx hfy o5 o6 rX rY fok hok hf hh hB
        have hfrom := @From.cell wr
        by_cases hfh : f = h
        · have heq' : ∀ W, (Op.equalIn 10000 64 (.agg X) (.agg Y)).run Try.prog W = .ok true W := fun W => by rw [heq W, hfh]; simp
          have HFH := Lib.hid hfh
          clear heq hfh
          go_wp2_with fail
          refine region_from (by kernel_rfl) (by kernel_rfl) ?_
          repeat (first
            | (go_big_quiet_want; refine quiet_load 64 (.tmp 37) rfl b1 (k * 49) rfl X HL1.out _ Try.underlying64 rfl HIX.out ?_; go_simp; go_big_quiet_on)
            | (go_big_quiet_want; refine quiet_load 64 (.tmp 41) rfl b2 (k * 49) rfl Y HL2.out _ Try.underlying64 rfl HIY.out ?_; go_simp; go_big_quiet_on)
            | (go_big_quiet_step (fail)))
          refine wpQuiet_nil ?_
          intro W hW
          have HW : Hid (Below w2.heap.size w2 W) := Lib.hid (HB.out.trans (hW.mono HB.out.size))
          clear hW hfrom heq'
          go_wp2
          go_roundw
          case rel => exact ⟨k + 1, by omega, by simp, by rw [HFX.out, HFY.out, HT.out, HFH.out], HW.out⟩
          case measure => simp [intOf]; omega
        · have heq' : ∀ W, (Op.equalIn 10000 64 (.agg X) (.agg Y)).run Try.prog W = .ok false W := fun W => by rw [heq W, decide_eq_false hfh]
          have hne : decide (fx = fy) = false := by
            rw [decide_eq_false_iff_not]
            rintro rfl
            have := HF.out.symm.trans HH.out
            injection this with this
            exact hfh this
          have HNE := Lib.hid hne
          clear heq hne hfh
          go_wp2_with fail
          refine region_from (by kernel_rfl) (by kernel_rfl) ?_
          repeat (first
            | (go_big_quiet_want; refine quiet_load 64 (.tmp 37) rfl b1 (k * 49) rfl X HL1.out _ Try.underlying64 rfl HIX.out ?_; go_simp; go_big_quiet_on)
            | (go_big_quiet_want; refine quiet_load 64 (.tmp 41) rfl b2 (k * 49) rfl Y HL2.out _ Try.underlying64 rfl HIY.out ?_; go_simp; go_big_quiet_on)
            | (go_big_quiet_step (fail)))
          refine wpQuiet_nil ?_
          intro W hW
          have HW : Hid (Below w2.heap.size w2 W) := Lib.hid (HB.out.trans (hW.mono HB.out.size))
          clear hW hfrom heq'
          go_wp2
          go_ret
          exact ⟨by rw [HNE.out]; rfl, U2.out.trans (HW.out.mono U2.out.size)⟩
      · obtain rfl : k = fx.length := by omega
        have hd : decide (fx = fy) = true := by
          rw [List.take_of_length_le (Nat.le_refl _), List.take_of_length_le (by rw [hle.out]; exact Nat.le_refl _)] at ht
          rw [decide_eq_true_eq]; exact ht
        have HD := Lib.hid hd
        have HB := Lib.hid hB
        clear hd ht hB
        go_wp2
        go_ret
        exact ⟨by rw [HD.out]; rfl, U2.out.trans (HB.out.mono U2.out.size)⟩
  · have hd : decide (fx = fy) = false := by
      rw [decide_eq_false_iff_not]
      rintro rfl
      exact hlen rfl
    have HD := Lib.hid hd
    have hle2 : ((fx.length : Int) != (fy.length : Int)) = true := by simp; omega
    clear hd hlen
    go_wp2
    go_ret
    exact ⟨by rw [HD.out]; rfl, U2.out⟩
theorem snap_same (w : World) (p bl bv : Nat) (g : G) (l : List E) (lv : List Int) (s : Sn) (hM : MapAt w p bl bv g l lv) (hO : MapOk g l lv) (p' bl' bv' : Nat) (g' : G) (l' : List E) (lv' : List Int) (s' : Sn) (hM' : MapAt w p' bl' bv' g' l' lv') (hO' : MapOk g' l' lv') :
    Calls Try.prog 45 #[s.v p, s'.v p'] w fun r w' => r = .returned (.bool (decide (frOpt s g l = frOpt s' g' l'))) ∧ Below w.heap.size w w' := by
  cases hs : s.right l with
  | false => exact same_parts w p bl bv g l lv s hM hO p' bl' bv' g' l' lv' s' hM' hO' (.inl hs)
  | true =>
    cases hs' : s'.right l' with
    | false => exact same_parts w p bl bv g l lv s hM hO p' bl' bv' g' l' lv' s' hM' hO' (.inr hs')
    | true => exact same_both w p bl bv g l lv s hM hO p' bl' bv' g' l' lv' s' hM' hO' hs hs'
end Go.Proofs.Ytcgafnmpfdkfoaa
/- Layer 13: a copy's sectors: ckpt.Sectors. -/
namespace Go.Proofs.Ytcgafnmpfdkfoaa
open Go.RowKit

theorem sec_fold (F : Array Value) (hF : F.size = 64) :
    Array.foldl (fun cs (x : Value × Nat) => cs.setIfInBounds x.snd x.fst) #[.int .u8 0, .int .u8 0, .int .u8 0, .int .u8 0, .int .u8 0, .int .u8 0, .int .u8 0, .int .u8 0, .int .u8 0, .int .u8 0, .int .u8 0, .int .u8 0, .int .u8 0, .int .u8 0, .int .u8 0, .int .u8 0, .int .u8 0, .int .u8 0, .int .u8 0, .int .u8 0, .int .u8 0, .int .u8 0, .int .u8 0, .int .u8 0, .int .u8 0, .int .u8 0, .int .u8 0, .int .u8 0, .int .u8 0, .int .u8 0, .int .u8 0, .int .u8 0, .int .u8 0, .int .u8 0, .int .u8 0, .int .u8 0, .int .u8 0, .int .u8 0, .int .u8 0, .int .u8 0, .int .u8 0, .int .u8 0, .int .u8 0, .int .u8 0, .int .u8 0, .int .u8 0, .int .u8 0, .int .u8 0, .int .u8 0, .int .u8 0, .int .u8 0, .int .u8 0, .int .u8 0, .int .u8 0, .int .u8 0, .int .u8 0, .int .u8 0, .int .u8 0, .int .u8 0, .int .u8 0, .int .u8 0, .int .u8 0, .int .u8 0, .int .u8 0] F.zipIdx 0 64 = F := by
  have h := fold_over F 0 Z64 (by rw [hF]; exact Nat.le_refl 64)
  rw [over_all (by rw [hF]; rfl)] at h
  simp [hF] at h
  exact h
def secV (f : Fr) : Array Value := (bys (sect f)).toArray
theorem secV_size {f : Fr} (h : f.Ok) : (secV f).size = 64 := by rw [secV, List.size_toArray, bys_length, sect_length h]
theorem secV_one (f : Fr) : (secV f).all (·.oneCell') = true := all_oneCell_toArray (bys_one _)
def flatS (fs : List Fr) : List Value := fs.flatMap fun f => bys (sect f)
theorem flatS_snoc (fs : List Fr) (k : Nat) (f : Fr) (h : fs[k]? = some f) : flatS (fs.take (k + 1)) = flatS (fs.take k) ++ bys (sect f) := by
  rw [List.take_add_one, h]; simp [flatS]
theorem flatS_length {fs : List Fr} (h : ∀ f ∈ fs, f.Ok) : (flatS fs).length = fs.length * 64 := by
  induction fs with
  | nil => rfl
  | cons x r ih =>
    rw [show flatS (x :: r) = bys (sect x) ++ flatS r from rfl, List.length_append, ih (fun f hf => h f (List.mem_cons_of_mem _ hf)), bys_length, sect_length (h x (by simp)), List.length_cons]
    omega
theorem info_sector : (Try.prog.info? 89).map (fun i => (i.zero, i.size, i.bytes)) = some (some (.agg Z64), 64, 64) := by kernel_rfl
/-- Frames that may be. -/
def FsOk (fs : List Fr) : Prop := ∀ f ∈ fs, f.right = true ∧ f.Ok ∧ Byt f.bd
theorem frames_fsok {s : Sn} {g : G} {l : List E} {lv : List Int} (hM : MapOk g l lv) (hO : SnOk s g l) (z : Int) (hh : g.holds z 0 = true) : FsOk (frames s g l z) := by
  intro f hf
  have h1 := frames_ok s g l z f hf
  have hn := hO.nums
  obtain ⟨i, hi, rfl⟩ := List.mem_map.1 hf
  have hb : Byt (frameAt s g l z i).bd := by
    unfold frameAt
    split
    · exact headB_byt _ _
    · exact partB_byt _ _
  have hlen := hM.len
  have hS := (G.small_of_right hO.right).B1
  exact ⟨frame_right_true s g l z i (G.holds_range hh) hO.right (by have := List.mem_range.1 hi; unfold nparts at this; omega) ⟨by omega, by omega⟩ ⟨by omega, by omega⟩, h1, hb⟩
def SecsPost (w : World) (fs : List Fr) (r : Ending) (w' : World) : Prop :=
  ∃ v, r = .returned (.tuple #[v, .int .i64 0]) ∧ w'.ownsRow w.heap.size 89 64 v fs.length (flatS fs) ∧ Below w.heap.size w w'
theorem sectors_err (w : World) (p bl bv : Nat) (g : G) (l : List E) (lv : List Int) (s : Sn) (hM : MapAt w p bl bv g l lv) (hz : l.length ≤ 1000) (z : Int) (h : s.right l = false ∨ g.holds z 0 = false) :
    Calls Try.prog 52 #[.agg tabV, s.v p, .int .i64 z] w fun r w' => r = .returned (.tuple #[.slice none 0 0, .int .i64 10]) ∧ Below w.heap.size w w' := by
  obtain ⟨V, hV⟩ : ∃ V, (w.alloc (.cells tabV 83)).alloc (s.box p) = V := ⟨_, rfl⟩
  have b0 : Below w.heap.size w V := by rw [← hV]; exact (below_box _ _).alloc (by simp) _
  have k1 : Blk V (w.heap.size + 1) 53 (s.arr p) := by rw [← hV]; exact Blk.newAt (by simp)
  have HM := Lib.hid (hM.grow b0)
  have HB := Lib.hid b0
  have yl := k1.lt
  obtain ⟨⟨y0, y1⟩, y2, y3⟩ := k1.scells
  clear b0 k1
  go_enter Try.func52, Try.ntmps52
  go_wp2_with fail
  clear hV
  refine (frames_err V p bl bv g l lv s HM.out hz z h).mono ?_
  rintro r w1 ⟨rfl, hb1⟩
  have B1 := Lib.hid (HB.out.trans (hb1.mono HB.out.size))
  clear hb1 y0 y1 y2 y3
  go_wp2
  go_ret2
  exact ⟨rfl, B1.out⟩
set_option maxRecDepth 100000 in
set_option maxHeartbeats 1000000 in
theorem sectors_yes (w : World) (p bl bv : Nat) (g : G) (l : List E) (lv : List Int) (s : Sn) (hM : MapAt w p bl bv g l lv) (hK : MapOk g l lv) (hO : SnOk s g l) (z : Int) (hh : g.holds z 0 = true) :
    Calls Try.prog 52 #[.agg tabV, s.v p, .int .i64 z] w (SecsPost w (frames s g l z)) := by
  obtain ⟨V, hV⟩ : ∃ V, (w.alloc (.cells tabV 83)).alloc (s.box p) = V := ⟨_, rfl⟩
  have b0 : Below w.heap.size w V := by rw [← hV]; exact (below_box _ _).alloc (by simp) _
  have k0 : Blk V w.heap.size 83 tabV := by rw [← hV]; exact (Blk.newAt rfl).alloc _
  have k1 : Blk V (w.heap.size + 1) 53 (s.arr p) := by rw [← hV]; exact Blk.newAt (by simp)
  have HM := Lib.hid (hM.grow b0)
  have HB := Lib.hid b0
  have K0 := Lib.hid k0
  have yl := k1.lt
  obtain ⟨⟨y0, y1⟩, y2, y3⟩ := k1.scells
  have hfs := frames_fsok hK hO z hh
  have hn1000 : (frames s g l z).length ≤ 1000 := by have := hK.len1000; rw [frames_length]; unfold nparts; omega
  have hY := Lib.hid (frames_yes V p bl bv g l lv s HM.out hO z hh)
  generalize frames s g l z = fs at hY hfs hn1000 ⊢
  clear b0 k1 k0
  go_enter Try.func52, Try.ntmps52
  go_wp2_with fail
  clear hV
  refine hY.out.mono ?_
  rintro r w1 ⟨b1, c1, rfl, _, hL1, hb1⟩
  have L1 := Lib.hid hL1
  have T1 := Lib.hid ((Keeps.of_below (S := []) hb1).blk K0.out.lt (by simp) K0.out)
  have B1 := Lib.hid (HB.out.trans (hb1.mono HB.out.size))
  have HF := Lib.hid hfs
  have hc1 := own_is' hL1
  obtain ⟨hc11, hc12⟩ := hc1
  have hc13 : c1 ≤ 9223372036854775807 := by unfold maxLen at hc12; omega
  clear hb1 hL1 y0 y1 y2 y3 yl hfs hc12 HM K0 hO hK hM hY
  go_wp2
  go_loopw [10, 26] (fun v i wr => ∃ k : Nat, k ≤ fs.length ∧ i = .int .i64 k ∧ wr.ownsRow w1.heap.size 89 64 v k (flatS (fs.take k)) ∧ Below w1.heap.size w1 wr) (fun _ i _ => fs.length - (intOf i).toNat)
  case atStart => exact ⟨0, Nat.zero_le _, rfl, ⟨by simp [flatS], .inl ⟨rfl, rfl⟩⟩, Below.refl _ _⟩
  case round =>
    obtain ⟨k, hk, rfl, hown, hB⟩ := hrel
    have HB2 := Lib.hid hB
    have HO := Lib.hid hown
    by_cases hlt : k < fs.length
    · obtain ⟨f, hf⟩ : ∃ f, fs[k]? = some f := ⟨_, List.getElem?_eq_getElem hlt⟩
      obtain ⟨fr, fok, fby⟩ := HF.out f (List.mem_of_getElem? hf)
      have o5 := (own_grow L1.out hB).1
      have rX := rangeAt_row o5 (fun f hf => (HF.out f hf).2.1) hf
      have hszX := Fr.size fok
      have hiX : (Try.prog.info? 64).map (·.size) = some f.arr.size := by rw [hszX]; exact size_frame
      have hiX' : (Try.prog.info? 64).map (·.size) = some f.arr.toList.length := by rw [Array.length_toList, hszX]; exact size_frame
      have hst1 : ∀ W : World, (storeCells ⟨W.heap.size, 0, none⟩ f.arr.toList 0).run Try.prog (W.alloc (.cells Z49 64)) = .ok () (W.alloc (.cells f.arr 64)) := fun W => run_storeCells_new W 64 Z49 f.arr hiX (by rw [hszX]; rfl) (Fr.one f)
      obtain ⟨V9, hV9⟩ : ∃ V, wr.alloc (.cells f.arr 64) = V := ⟨_, rfl⟩
      have b9 : Below wr.heap.size wr V9 := by rw [← hV9]; exact below_box _ _
      have F9 : Blk V9 wr.heap.size 64 f.arr := by rw [← hV9]; exact Blk.newAt rfl
      have T9 := Lib.hid ((Keeps.of_below (S := []) (hB.trans (b9.mono hB.size))).blk T1.out.lt (by simp) T1.out)
      have HF9 := Lib.hid F9
      have B9 := Lib.hid (HB2.out.trans (b9.mono HB2.out.size))
      have O9 := Lib.hid (own_grow' hown b9)
      have RX := Lib.hid rX
      have HIX := Lib.hid hiX
      have HIX' := Lib.hid hiX'
      have hszT : (Try.prog.info? 83).map (·.size) = some tabV.size := by rw [tabV_size]; exact size_table
      have HSZT := Lib.hid hszT
      have HFF := Lib.hid hf
      have ENC : Hid (∀ W : World, Calls Try.prog 92 #[.agg tabV, .agg f.arr] W fun r w' => r = .returned (.tuple #[.agg (secV f), .int .i64 0]) ∧ Below W.heap.size W w') := Lib.hid fun W => frame_encode W f fr fok fby
      have SS := Lib.hid (secV_size fok)
      obtain ⟨D, hD⟩ : ∃ D, Hid (secV f = D) := ⟨_, Lib.hid rfl⟩
      have hDs : D.size = 64 := by rw [← hD.out]; exact SS.out
      have hDi : (Try.prog.info? 89).map (·.size) = some D.size := by rw [hDs]; exact size_sector
      have hD1 : D.all (·.oneCell') = true := by rw [← hD.out]; exact secV_one f
      have hst2 : ∀ W : World, (storeCells ⟨W.heap.size, 0, none⟩ D.toList 0).run Try.prog (W.alloc (.cells Z64 89)) = .ok () (W.alloc (.cells D 89)) := fun W => run_storeCells_new W 89 Z64 D hDi (by rw [hDs]; rfl) hD1
      have hsf := sec_fold D hDs
      generalize f.arr = X at *
      clear hiX hiX' o5 rX fok fby fr hf hB b9 F9 hszT hown hDi
      go_wp2_with (first
        | (refine wpList_load_mid rfl 64 (.tmp 28) rfl b1 (k * 49) rfl X.toList _ RX.out Try.underlying64 rfl HIX'.out ?_)
        | (refine wpList_load_blk rfl 83 (.tmp 3) rfl w.heap.size 0 rfl T9.out tabV (row_whole tabV) _ Try.underlying83 rfl HSZT.out ?_)
        | (refine wpList_load_blk rfl 64 (.tmp 12) rfl wr.heap.size 0 rfl HF9.out X (row_whole X) _ Try.underlying64 rfl HIX.out ?_))
      clear hV9 hst1
      refine (ENC.out V9).mono ?_
      rintro r w4 ⟨rfl, hb4⟩
      rw [hD.out]
      have B4 := Lib.hid (B9.out.trans (hb4.mono B9.out.size))
      have O4 := Lib.hid (own_grow' O9.out hb4)
      obtain ⟨V5, hV5⟩ : ∃ V, w4.alloc (.cells D 89) = V := ⟨_, rfl⟩
      have b5 : Below w4.heap.size w4 V5 := by rw [← hV5]; exact below_box _ _
      have F5 : Hid (Blk V5 w4.heap.size 89 D) := Lib.hid (by rw [← hV5]; exact Blk.newAt rfl)
      have B5 := Lib.hid (B4.out.trans (b5.mono B4.out.size))
      have O5 := Lib.hid (own_grow' O4.out b5)
      obtain ⟨V6, hV6⟩ : ∃ V, V5.alloc (.cells D 89) = V := ⟨_, rfl⟩
      have b6 : Below V5.heap.size V5 V6 := by rw [← hV6]; exact below_box _ _
      have B6 := Lib.hid (B5.out.trans (b6.mono B5.out.size))
      have O6 := Lib.hid (own_grow' O5.out b6)
      have X6 : Hid (∀ j v, D.toList[j]? = some v → V6.cell? ((⟨V5.heap.size, 0, none⟩ : Addr).add j) = some v) := Lib.hid fun j v hv => by
        rw [add_at, Nat.zero_add, ← hV6, cell_of_row _ _ j D _ (0, 0) (heap_alloc_new V5 _)]
        simpa using hv
      have hDi : (Try.prog.info? 89).map (·.size) = some D.size := by rw [hDs]; exact size_sector
      have HDI := Lib.hid hDi
      have HDS := Lib.hid hDs
      have H1D := Lib.hid hD1
      obtain ⟨i0, hi, hz0, hz1, hz2⟩ := info_parts info_sector
      clear hb4 b5 b6 hDi hD1
      go_wp2_with (first
        | (refine wpList_load_blk rfl 89 (.tmp 13) rfl w4.heap.size 0 rfl F5.out D (row_whole D) _ Try.underlying89 rfl HDI.out ?_)
        | (at_builtin; refine Hid.out ?_))
      refine Lib.hid ?_
      refine wpList_append_own _ rfl _ _ 85 rfl w1.heap.size 89 i0 (.agg Z64) 64 64 Try.underlying85 hi hz0 hz1 hz2 rfl (by omega) u10 k (flatS (fs.take k)) rfl O6.out ⟨V5.heap.size, 0, none⟩ 1 1 D.toList rfl (by rw [Array.length_toList, HDS.out]) X6.out (fun v hv => (Array.all_eq_true_iff_forall_mem.1 H1D.out) v (by simpa using hv)) (by unfold maxLen; omega) (by omega) (by have := B6.out.size; omega) ?_
      intro v' w10 hown' hgrow hnil
      have B10 := Lib.hid (B6.out.grown hgrow B6.out.size (fun j ej => (World.ownsRow.lt O6.out j ej).1))
      have O10 : Hid (w10.ownsRow w1.heap.size 89 64 v' (k + 1) (flatS (fs.take (k + 1)))) := Lib.hid (by
        rw [flatS_snoc _ _ _ HFF.out]
        have e : bys (sect f) = D.toList := by rw [← hD.out]; rfl
        rw [e]; exact hown')
      clear hown' hgrow hnil hV5 hV6 hst2 hsf
      go_wp2
      go_roundw
      case rel => exact ⟨k + 1, by omega, by simp, O10.out, B10.out⟩
      case measure => simp [intOf]; omega
    · obtain rfl : k = fs.length := by omega
      rw [List.take_of_length_le (Nat.le_refl _)] at HO
      clear hB hown
      go_wp2
      go_ret2
      refine ⟨u10, rfl, ?_, B1.out.trans (HB2.out.mono B1.out.size)⟩
      refine ⟨HO.out.1, ?_⟩
      rcases HO.out.2 with h' | ⟨g', c', cur, e1, e2, e3⟩
      · exact .inl h'
      · exact .inr ⟨g', c', cur, e1, Nat.le_trans B1.out.size e2, e3⟩
end Go.Proofs.Ytcgafnmpfdkfoaa
/- The reference of layer 12: may a snapshot be. -/
namespace Go.Proofs.Ytcgafnmpfdkfoaa
open Go.RowKit

theorem Blk.rcells {w : World} {b : Nat} {t : TypeId} {s : Sn} {g : G} {v : Value} (h : Blk w b t (refArr s g v)) : (w.cell? ⟨b, 0, none⟩ = some (.int .i64 s.gen) ∧ w.cell? ⟨b, 1, none⟩ = some (.int .i64 s.ep)) ∧ w.cell? ⟨b, 2, none⟩ = some (.int .i64 s.nx) ∧ w.cell? ⟨b, 9, none⟩ = some v :=
  ⟨⟨by rw [h.cell]; rfl, by rw [h.cell]; rfl⟩, by rw [h.cell]; rfl, by rw [h.cell]; rfl⟩
theorem Sn.right_no {s : Sn} {l : List E} (h : ¬ ((1 ≤ s.gen ∧ s.gen ≤ 281474976710655) ∧ (1 ≤ s.ep ∧ s.ep ≤ 4294967295) ∧ (1 ≤ s.nx ∧ s.nx ≤ 281474976710655))) : s.right l = false := by
  rw [← Bool.not_eq_true]
  intro hr
  apply h
  simp only [Sn.right, Bool.and_eq_true, wi_true] at hr
  exact ⟨hr.1.1.1, hr.1.1.2, hr.1.2⟩
theorem Sn.right_all {s : Sn} {l : List E} (h : (1 ≤ s.gen ∧ s.gen ≤ 281474976710655) ∧ (1 ≤ s.ep ∧ s.ep ≤ 4294967295) ∧ (1 ≤ s.nx ∧ s.nx ≤ 281474976710655)) : s.right l = l.all fun e => decide (e.sq < s.nx) := by
  unfold Sn.right
  rw [wi_true.2 h.1, wi_true.2 h.2.1, wi_true.2 h.2.2]
  rfl

set_option maxRecDepth 100000 in
set_option maxHeartbeats 1000000 in
theorem ref12_right_no (w : World) (s : Sn) (g : G) (v : Value) (l : List E) (h : ¬ ((1 ≤ s.gen ∧ s.gen ≤ 281474976710655) ∧ (1 ≤ s.ep ∧ s.ep ≤ 4294967295) ∧ (1 ≤ s.nx ∧ s.nx ≤ 281474976710655))) :
    Calls Try.prog 44 #[.agg (refArr s g v)] w fun r w' => r = .returned (.bool (s.right l)) ∧ Below w.heap.size w w' := by
  rw [Sn.right_no h]
  by_cases h1 : s.gen < 1
  · go_enter Try.func44, Try.ntmps44
    go_wp2
    go_ret
    exact ⟨rfl, below_box _ _⟩
  · by_cases h2 : 281474976710655 < s.gen
    · go_enter Try.func44, Try.ntmps44
      go_wp2
      go_ret
      exact ⟨rfl, below_box _ _⟩
    · by_cases h3 : s.ep < 1
      · go_enter Try.func44, Try.ntmps44
        go_wp2
        go_ret
        exact ⟨rfl, below_box _ _⟩
      · by_cases h4 : 4294967295 < s.ep
        · go_enter Try.func44, Try.ntmps44
          go_wp2
          go_ret
          exact ⟨rfl, below_box _ _⟩
        · by_cases h5 : s.nx < 1
          · go_enter Try.func44, Try.ntmps44
            go_wp2
            go_ret
            exact ⟨rfl, below_box _ _⟩
          · have h6 : 281474976710655 < s.nx := by omega
            go_enter Try.func44, Try.ntmps44
            go_wp2
            go_ret
            exact ⟨rfl, below_box _ _⟩
set_option maxRecDepth 100000 in
set_option maxHeartbeats 1000000 in
theorem ref12_right_yes (w : World) (s : Sn) (g : G) (b c : Nat) (l : List E) (hz : l.length ≤ 1000) (hb : b < w.heap.size) (he : ∀ i e, l[i]? = some e → EntReads w b i e)
    (h : (1 ≤ s.gen ∧ s.gen ≤ 281474976710655) ∧ (1 ≤ s.ep ∧ s.ep ≤ 4294967295) ∧ (1 ≤ s.nx ∧ s.nx ≤ 281474976710655)) :
    Calls Try.prog 44 #[.agg (refArr s g (.slice (some ⟨b, 0, none⟩) l.length c))] w fun r w' => r = .returned (.bool (s.right l)) ∧ Below w.heap.size w w' := by
  rw [Sn.right_all h]
  obtain ⟨⟨h1, h2⟩, ⟨h3, h4⟩, h5, h6⟩ := h
  obtain ⟨W0, hW0⟩ : ∃ W0, w.alloc (.cells (refArr s g (.slice (some ⟨b, 0, none⟩) l.length c)) 55) = W0 := ⟨_, rfl⟩
  have k0 : Blk W0 w.heap.size 55 (refArr s g (.slice (some ⟨b, 0, none⟩) l.length c)) := by rw [← hW0]; exact Blk.newAt rfl
  have U0 : Below w.heap.size w W0 := by rw [← hW0]; exact below_box _ _
  obtain ⟨⟨x0, x1⟩, x2, x9⟩ := k0.rcells
  have HU := Lib.hid U0
  have K0 := Lib.hid k0
  have HE := Lib.hid he
  clear U0 k0 he
  go_enter Try.func44, Try.ntmps44
  go_wp2_with fail
  clear hW0
  go_loopw [3] (fun i wr => ∃ k : Nat, k ≤ l.length ∧ i = .int .i64 k ∧ (∀ j e, j < k → l[j]? = some e → e.sq < s.nx) ∧ Below W0.heap.size W0 wr) (fun i _ => l.length - (intOf i).toNat)
  case atStart => exact ⟨0, Nat.zero_le _, rfl, fun j e hj => absurd hj (by omega), Below.refl _ _⟩
  case round =>
    obtain ⟨k, hk, rfl, ht, hB⟩ := hrel
    have kr := (Keeps.of_below (S := []) hB).blk K0.out.lt (by simp) K0.out
    obtain ⟨⟨x0, x1⟩, x2, x9⟩ := kr.rcells
    have hrl := kr.lt
    have HT := Lib.hid ht
    have HB := Lib.hid hB
    clear ht kr hB
    by_cases hlt : k < l.length
    · obtain ⟨e, hel⟩ : ∃ e, l[k]? = some e := ⟨_, List.getElem?_eq_getElem hlt⟩
      obtain ⟨_, _, _, _, e4, _⟩ := HE.out k e hel
      have hbr : b < wr.heap.size := by have := HU.out.size; have := HB.out.size; omega
      have d4 : wr.cell? ⟨b, k * 6 + 4, none⟩ = some (.int .i64 e.sq) := by
        rw [HB.out.cell (p := ⟨b, k * 6 + 4, none⟩) (Nat.lt_of_lt_of_le hb HU.out.size), HU.out.cell (p := ⟨b, k * 6 + 4, none⟩) hb]; exact e4
      have HEL := Lib.hid hel
      clear e4 hel
      have hfrom := @From.cell wr
      by_cases hsq : e.sq < s.nx
      · go_wp2_with fail
        refine region_from (by kernel_rfl) (by kernel_rfl) ?_
        repeat (go_big_quiet_step (fail))
        refine wpQuiet_nil ?_
        intro W hW
        have HW := Lib.hid (HB.out.trans (hW.mono HB.out.size))
        clear hW hfrom
        go_wp2
        go_roundw
        case rel =>
          refine ⟨k + 1, by omega, by simp, fun j x hj hx => ?_, HW.out⟩
          by_cases hjk : j = k
          · subst hjk
            have := HEL.out.symm.trans hx
            injection this with this
            subst this
            exact hsq
          · exact HT.out j x (by omega) hx
        case measure => simp [intOf]; omega
      · have hge : s.nx ≤ e.sq := by omega
        have hall : (l.all fun e => decide (e.sq < s.nx)) = false := by
          rw [← Bool.not_eq_true, List.all_eq_true]
          intro hx
          have := hx e (List.mem_of_getElem? HEL.out)
          simp at this
          omega
        have HA := Lib.hid hall
        clear hsq hall
        go_wp2_with fail
        refine region_from (by kernel_rfl) (by kernel_rfl) ?_
        repeat (go_big_quiet_step (fail))
        refine wpQuiet_nil ?_
        intro W hW
        have HW := Lib.hid (HB.out.trans (hW.mono HB.out.size))
        clear hW hfrom
        go_wp2
        go_ret
        exact ⟨by rw [HA.out]; rfl, HU.out.trans (HW.out.mono HU.out.size)⟩
    · obtain rfl : k = l.length := by omega
      have hall : (l.all fun e => decide (e.sq < s.nx)) = true := by
        rw [List.all_eq_true]
        intro x hx
        obtain ⟨j, hj, rfl⟩ := List.getElem_of_mem hx
        have := HT.out j _ hj (List.getElem?_eq_getElem hj)
        simpa using this
      have HA := Lib.hid hall
      clear hall
      go_wp2
      go_ret
      exact ⟨by rw [HA.out]; rfl, HU.out.trans (HB.out.mono HU.out.size)⟩
theorem ref12_right (w : World) (s : Sn) (g : G) (b c : Nat) (l : List E) (hz : l.length ≤ 1000) (hb : b < w.heap.size) (he : ∀ i e, l[i]? = some e → EntReads w b i e) :
    Calls Try.prog 44 #[.agg (refArr s g (.slice (some ⟨b, 0, none⟩) l.length c))] w fun r w' => r = .returned (.bool (s.right l)) ∧ Below w.heap.size w w' := by
  by_cases h : (1 ≤ s.gen ∧ s.gen ≤ 281474976710655) ∧ (1 ≤ s.ep ∧ s.ep ≤ 4294967295) ∧ (1 ≤ s.nx ∧ s.nx ≤ 281474976710655)
  · exact ref12_right_yes w s g b c l hz hb he h
  · exact ref12_right_no w s g _ l h
theorem ref12_right_v (w : World) (s : Sn) (g : G) (b c : Nat) (l : List E) (hz : l.length ≤ 1000) (hb : b < w.heap.size) (he : ∀ i e, l[i]? = some e → EntReads w b i e) (t : Bool) (ht : s.right l = t) :
    Calls Try.prog 44 #[.agg (refArr s g (.slice (some ⟨b, 0, none⟩) l.length c))] w fun r w' => r = .returned (.bool t) ∧ Below w.heap.size w w' := ht ▸ ref12_right w s g b c l hz hb he
end Go.Proofs.Ytcgafnmpfdkfoaa
/- The reference's bytes: revetmentref02.Num, revetmentref12.bytes, revetmentref12.entry. -/
namespace Go.Proofs.Ytcgafnmpfdkfoaa
open Go.RowKit

def RNumPost (w : World) (n : Nat) (v : Int) (r : Ending) (w' : World) : Prop :=
  ∃ u, r = .returned u ∧ w'.ownsRow w.heap.size 5 1 u n (bys (le n v)) ∧ Below w.heap.size w w'
set_option maxRecDepth 100000 in
set_option maxHeartbeats 1000000 in
theorem ref_num (w : World) (n : Nat) (v : Int) (n7 : n ≤ 7) (h0 : 0 ≤ v) (h1 : v < 72057594037927936) :
    Calls Try.prog 89 #[.int .i64 n, .int .i64 v] w (RNumPost w n v) := by
  obtain ⟨i0, hi, hz0, hz1, hz2⟩ := info_parts info_byte
  go_enter Try.func89, Try.ntmps89
  go_wp2
  go_loopw [1, 5, 6] (fun x o i wr => ∃ k : Nat, k ≤ n ∧ x = .int .i64 (v / 256 ^ k) ∧ i = .int .i64 k ∧ wr.ownsRow w.heap.size 5 1 o k (bys (le k v)) ∧ Below w.heap.size w wr) (fun _ _ i _ => n - (intOf i).toNat)
  case atStart => exact ⟨0, Nat.zero_le _, by simp, rfl, ⟨by simp [le, bys], .inl ⟨rfl, rfl⟩⟩, Below.refl _ _⟩
  case round =>
    obtain ⟨k, hk, rfl, rfl, hown, hB⟩ := hrel
    by_cases hlt : k < n
    · have hu : 0 ≤ v / 256 ^ k := Int.ediv_nonneg h0 (Int.pow_nonneg (by omega))
      have hu1 : v / 256 ^ k < 72057594037927936 := by have := Int.ediv_le_self (256 ^ k) h0; omega
      have hs := le_snoc k v
      have hd := @Int.ediv_ediv v (256 ^ k) 256
      rw [if_neg (by have : (0 : Int) < 256 ^ k := Int.pow_pos (by omega); omega), Int.sub_zero, ← Int.pow_succ] at hd
      generalize v / 256 ^ k = u at hu hu1 hs hd ⊢
      have HD := Lib.hid hd
      have HS := Lib.hid hs
      have HB := Lib.hid hB
      have HO := Lib.hid hown
      have hm : u.tmod 256 = u % 256 := Int.tmod_eq_emod_of_nonneg hu
      have hq : u.tdiv 256 = u / 256 := Int.tdiv_eq_ediv_of_nonneg hu
      clear hs hd hB hown
      go_wp2_with (at_builtin; refine Hid.out ?_)
      refine Lib.hid ?_
      refine wpList_append_own _ rfl _ _ 106 rfl w.heap.size 5 i0 (.int .u8 0) 1 1 Try.underlying106 hi hz0 hz1 hz2 rfl (by omega) u5 k (bys (le k v)) rfl (World.ownsRow.alloc HO.out _) ⟨wr.heap.size, 0, none⟩ 1 1 [.int .u8 (u % 256)] rfl rfl (cell_one_new _ _ _) (by simp [Value.oneCell']) (by unfold maxLen; omega) (by omega) (by have := HB.out.size; simp; omega) ?_
      intro v' w10 hown' hgrow hnil
      have hB10 := Lib.hid ((HB.out.alloc HB.out.size _).grown hgrow (by have := HB.out.size; simp; omega) (fun j ej => (World.ownsRow.lt HO.out j ej).1))
      have L10 := Lib.hid (show w10.ownsRow w.heap.size 5 1 v' (k + 1) (bys (le (k + 1) v)) by rw [HS.out, bys, List.map_append]; exact hown')
      clear hown' hgrow hnil
      go_wp2
      go_roundw
      case rel => exact ⟨k + 1, by omega, by rw [HD.out], by simp, L10.out, hB10.out⟩
      case measure => simp [intOf]; omega
    · obtain rfl : k = n := by omega
      have HB := Lib.hid hB
      have HO := Lib.hid hown
      clear hB hown
      go_wp2
      go_ret
      exact ⟨_, rfl, HO.out, HB.out⟩
theorem own_lower {W : World} {base base' n size : Nat} {e : TypeId} {v : Value} {xs : List Value} (h : W.ownsRow base e size v n xs) (hb : base' ≤ base) : W.ownsRow base' e size v n xs := by
  refine ⟨h.1, ?_⟩
  rcases h.2 with h' | ⟨g, c, cur, h1, h2, h3⟩
  · exact .inl h'
  · exact .inr ⟨g, c, cur, h1, Nat.le_trans hb h2, h3⟩
/-- Bytes laid behind bytes. -/
structure RowB (w : World) (base : Nat) (b0 : Nat) (e : E) (W : World) (v : Value) (n : Nat) (xs : List Int) : Prop where
  row : W.ownsRow base 5 1 v n (bys xs)
  ent : Blk W b0 46 e.arr
  u : Below w.heap.size w W
theorem RowB.grow {w : World} {base b0 : Nat} {e : E} {W W' : World} {v : Value} {n : Nat} {xs : List Int} (h : RowB w base b0 e W v n xs) (k : Below W.heap.size W W') : RowB w base b0 e W' v n xs :=
  ⟨own_grow' h.row k, (Keeps.of_below (S := []) k).blk h.ent.lt (by simp) h.ent, h.u.trans (k.mono h.u.size)⟩
/-- What an append behind such a row leaves. -/
theorem RowB.app {w : World} {base b0 : Nat} {e : E} {W W' : World} {v v' : Value} {n m : Nat} {xs ys : List Int} (h : RowB w base b0 e W v n xs) (hb : b0 < base ∧ w.heap.size ≤ base) (hown : W'.ownsRow base 5 1 v' (n + m) (bys xs ++ bys ys)) (hg : W.grownBy W' v.ownBlock) : RowB w base b0 e W' v' (n + m) (xs ++ ys) := by
  refine ⟨by rw [bys, List.map_append]; exact hown, ?_, h.u.grown hg h.u.size (fun j ej => by have := (World.ownsRow.lt h.row j ej).1; omega)⟩
  exact (World.grownBy.block hg b0 h.ent.lt (fun ej => by have := (World.ownsRow.lt h.row b0 ej.symm).1; omega)).trans h.ent
/-- The cells of a row of bytes, as an append reads them. -/
theorem row_cells {W : World} {base g c n : Nat} {ys : List Int} (h : W.ownsRow base 5 1 (.slice (some ⟨g, 0, none⟩) n c) n (bys ys)) (hn : ys.length = n) : ∀ j u, (bys ys)[j]? = some u → W.cell? ((⟨g, 0, none⟩ : Addr).add j) = some u := by
  intro j u hu
  have hj := (List.getElem?_eq_some_iff.1 hu).1
  rw [bys_length] at hj
  rw [Addr.add_nat_zero, h.cellAt j (by omega)]
  exact hu
def REntPost (w : World) (e : E) (r : Ending) (w' : World) : Prop :=
  ∃ u, r = .returned u ∧ w'.ownsRow w.heap.size 5 1 u 16 (bys (entB e)) ∧ Below w.heap.size w w'
set_option maxRecDepth 100000 in
set_option maxHeartbeats 2000000 in
theorem ref_entry (w : World) (e : E) (he : e.Fits) : Calls Try.prog 91 #[e.v] w (REntPost w e) := by
  obtain ⟨i0, hi, hz0, hz1, hz2⟩ := info_parts info_byte
  obtain ⟨s0, s1⟩ := he.st
  obtain ⟨W0, hW0⟩ : ∃ W, (w.alloc (.cells #[.int .i64 e.st, .int .i64 e.zn, .int .i64 e.mt, .int .i64 e.off, .int .i64 e.sq, .int .i64 e.sm] 46)).alloc (.cells #[.int .u8 e.st] 5) = W := ⟨_, rfl⟩
  have R0 : Hid (RowB w (w.heap.size + 1) w.heap.size e W0 (.slice (some ⟨w.heap.size + 1, 0, none⟩) 1 1) 1 (le 1 e.st)) := by
    rw [← hW0]
    exact Lib.hid ⟨own_blk (Blk.newAt (by simp)) (Nat.le_refl _) (Nat.le_refl _) (by unfold maxLen; omega) rfl (by simp [bys, le]) (by rw [show bys (le 1 e.st) = [.int .u8 e.st] by simp [bys, le]; omega]; rfl), (Blk.newAt rfl).alloc _, (below_box _ _).alloc (by simp) _⟩
  have HE := Lib.hid he
  obtain ⟨⟨x0, x1, x2⟩, x3, x4, x5⟩ := R0.out.ent.ent
  have HW := Lib.hid hW0
  clear hW0 he
  go_enter Try.func91, Try.ntmps91
  go_wp2_with fail
  rw [HW.out]
  refine (ref_num W0 2 e.zn (by omega) HE.out.zn.1 (by have := HE.out.zn.2; omega)).mono ?_
  rintro r w1 ⟨u1, rfl, hown1, hb1⟩
  obtain ⟨g1, c1, rfl⟩ := own_succ hown1
  have R1 := Lib.hid (R0.out.grow hb1)
  have Y1 := Lib.hid (row_cells hown1 (le_length 2 e.zn))
  have S1 : Hid (w.heap.size + 1 ≤ w1.heap.size) := Lib.hid (by have := R1.out.ent.lt; omega)
  clear hown1 hb1 x0 x1 x2 x3 x4 x5
  go_wp2_with (at_builtin; refine Hid.out ?_)
  refine Lib.hid ?_
  refine wpList_append_own _ rfl _ _ 106 rfl (w.heap.size + 1) 5 i0 (.int .u8 0) 1 1 Try.underlying106 hi hz0 hz1 hz2 rfl (by omega) (.slice (some ⟨w.heap.size + 1, 0, none⟩) 1 1) 1 (bys (le 1 e.st)) rfl R1.out.row ⟨g1, 0, none⟩ 2 c1 (bys (le 2 e.zn)) rfl (by rw [bys_length, le_length]) Y1.out (bys_one _) (by unfold maxLen; omega) (by omega) S1.out ?_
  intro v1 W1 hown' hgrow hnil
  have T1 := Lib.hid (R1.out.app ⟨by omega, by omega⟩ hown' hgrow)
  clear hown' hgrow hnil
  obtain ⟨⟨x0, x1, x2⟩, x3, x4, x5⟩ := T1.out.ent.ent
  go_wp2_with fail
  refine (ref_num W1 2 e.mt (by omega) HE.out.mt.1 (by have := HE.out.mt.2; omega)).mono ?_
  rintro r w2 ⟨u2, rfl, hown2, hb2⟩
  obtain ⟨g2, c2, rfl⟩ := own_succ hown2
  have R2 := Lib.hid (T1.out.grow hb2)
  have Y2 := Lib.hid (row_cells hown2 (le_length 2 e.mt))
  have S2 : Hid (w.heap.size + 1 ≤ w2.heap.size) := Lib.hid (by have := R2.out.ent.lt; omega)
  clear hown2 hb2 x0 x1 x2 x3 x4 x5
  go_wp2_with (at_builtin; refine Hid.out ?_)
  refine Lib.hid ?_
  refine wpList_append_own _ rfl _ _ 106 rfl (w.heap.size + 1) 5 i0 (.int .u8 0) 1 1 Try.underlying106 hi hz0 hz1 hz2 rfl (by omega) v1 3 (bys (le 1 e.st ++ le 2 e.zn)) rfl R2.out.row ⟨g2, 0, none⟩ 2 c2 (bys (le 2 e.mt)) rfl (by rw [bys_length, le_length]) Y2.out (bys_one _) (by unfold maxLen; omega) (by omega) S2.out ?_
  intro v2 W2 hown' hgrow hnil
  have T2 := Lib.hid (R2.out.app ⟨by omega, by omega⟩ hown' hgrow)
  clear hown' hgrow hnil
  obtain ⟨⟨x0, x1, x2⟩, x3, x4, x5⟩ := T2.out.ent.ent
  obtain ⟨o0, o1⟩ := HE.out.off
  go_wp2_with (at_builtin; refine Hid.out ?_)
  refine Lib.hid ?_
  refine wpList_append_own _ rfl _ _ 106 rfl (w.heap.size + 1) 5 i0 (.int .u8 0) 1 1 Try.underlying106 hi hz0 hz1 hz2 rfl (by omega) v2 5 (bys (le 1 e.st ++ le 2 e.zn ++ le 2 e.mt)) rfl (T2.out.grow (below_box _ _)).row ⟨W2.heap.size, 0, none⟩ 1 1 (bys (le 1 e.off)) rfl (by rw [bys_length, le_length]) (by rw [show bys (le 1 e.off) = [.int .u8 e.off] by simp [bys, le]; omega]; exact cell_one_new _ _ _) (bys_one _) (by unfold maxLen; omega) (by omega) (by have := T2.out.ent.lt; simp; omega) ?_
  intro v3 W3 hown' hgrow hnil
  have T3 := Lib.hid ((T2.out.grow (below_box _ _)).app ⟨by omega, by omega⟩ hown' hgrow)
  clear hown' hgrow hnil x0 x1 x2 x3 x4 x5 o0 o1
  obtain ⟨⟨x0, x1, x2⟩, x3, x4, x5⟩ := T3.out.ent.ent
  go_wp2_with fail
  refine (ref_num W3 6 e.sq (by omega) HE.out.sq.1 (by have := HE.out.sq.2; omega)).mono ?_
  rintro r w4 ⟨u4, rfl, hown4, hb4⟩
  obtain ⟨g4, c4, rfl⟩ := own_succ hown4
  have R4 := Lib.hid (T3.out.grow hb4)
  have Y4 := Lib.hid (row_cells hown4 (le_length 6 e.sq))
  have S4 : Hid (w.heap.size + 1 ≤ w4.heap.size) := Lib.hid (by have := R4.out.ent.lt; omega)
  clear hown4 hb4 x0 x1 x2 x3 x4 x5
  go_wp2_with (at_builtin; refine Hid.out ?_)
  refine Lib.hid ?_
  refine wpList_append_own _ rfl _ _ 106 rfl (w.heap.size + 1) 5 i0 (.int .u8 0) 1 1 Try.underlying106 hi hz0 hz1 hz2 rfl (by omega) v3 6 (bys (le 1 e.st ++ le 2 e.zn ++ le 2 e.mt ++ le 1 e.off)) rfl R4.out.row ⟨g4, 0, none⟩ 6 c4 (bys (le 6 e.sq)) rfl (by rw [bys_length, le_length]) Y4.out (bys_one _) (by unfold maxLen; omega) (by omega) S4.out ?_
  intro v4 W4 hown' hgrow hnil
  have T4 := Lib.hid (R4.out.app ⟨by omega, by omega⟩ hown' hgrow)
  clear hown' hgrow hnil
  obtain ⟨⟨x0, x1, x2⟩, x3, x4, x5⟩ := T4.out.ent.ent
  go_wp2_with fail
  refine (ref_num W4 4 e.sm (by omega) HE.out.sm.1 (by have := HE.out.sm.2; omega)).mono ?_
  rintro r w5 ⟨u5, rfl, hown5, hb5⟩
  obtain ⟨g5, c5, rfl⟩ := own_succ hown5
  have R5 := Lib.hid (T4.out.grow hb5)
  have Y5 := Lib.hid (row_cells hown5 (le_length 4 e.sm))
  have S5 : Hid (w.heap.size + 1 ≤ w5.heap.size) := Lib.hid (by have := R5.out.ent.lt; omega)
  clear hown5 hb5 x0 x1 x2 x3 x4 x5
  go_wp2_with (at_builtin; refine Hid.out ?_)
  refine Lib.hid ?_
  refine wpList_append_own _ rfl _ _ 106 rfl (w.heap.size + 1) 5 i0 (.int .u8 0) 1 1 Try.underlying106 hi hz0 hz1 hz2 rfl (by omega) v4 12 (bys (le 1 e.st ++ le 2 e.zn ++ le 2 e.mt ++ le 1 e.off ++ le 6 e.sq)) rfl R5.out.row ⟨g5, 0, none⟩ 4 c5 (bys (le 4 e.sm)) rfl (by rw [bys_length, le_length]) Y5.out (bys_one _) (by unfold maxLen; omega) (by omega) S5.out ?_
  intro v5 W5 hown' hgrow hnil
  have T5 := Lib.hid (R5.out.app ⟨by omega, by omega⟩ hown' hgrow)
  clear hown' hgrow hnil
  go_wp2
  go_ret
  have hx := T5.out.row
  refine ⟨v5, rfl, ?_, T5.out.u⟩
  exact own_lower hx (by omega)
end Go.Proofs.Ytcgafnmpfdkfoaa
/- Law 13's 'made': a snapshot of a map with such entries, both ways. -/
namespace Go.Proofs.Ytcgafnmpfdkfoaa
open Go.RowKit Go.Shelf

attribute [local go_sem] Oper.semAt_some

set_option maxRecDepth 100000 in
theorem made13_no (w : World) (g : G) (A : Option Addr) (n c : Nat) (gen ep nx : Int) (hr : g.right = false) :
    Calls Try.prog 50 #[g.v, .slice A n c, .int .i64 gen, .int .i64 ep, .int .i64 nx] w fun r w' => r = .returned (.tuple #[sn0, ref0, .bool false]) ∧ Below w.heap.size w w' := by
  obtain ⟨V0, hV0⟩ : ∃ V0, ((w.alloc g.box).alloc (.cells #[.int .i64 0, .int .i64 0, .int .i64 0, .pointer none] 53)).alloc (.cells #[.int .i64 0, .int .i64 0, .int .i64 0, .int .i64 0, .int .i64 0, .int .i64 0, .int .i64 0, .int .i64 0, .int .i64 0, .slice none 0 0] 55) = V0 := ⟨_, rfl⟩
  have U0 : Below w.heap.size w V0 := by rw [← hV0]; exact ((below_box w _).alloc (by simp) _).alloc (by simp <;> omega) _
  have k0 : Blk V0 w.heap.size 23 g.arr := by rw [← hV0]; exact ((Blk.newAt rfl).alloc _).alloc _
  have k1 : Blk V0 (w.heap.size + 1) 53 #[.int .i64 0, .int .i64 0, .int .i64 0, .pointer none] := by rw [← hV0]; exact (Blk.newAt (by simp)).alloc _
  have k2 : Blk V0 (w.heap.size + 2) 55 #[.int .i64 0, .int .i64 0, .int .i64 0, .int .i64 0, .int .i64 0, .int .i64 0, .int .i64 0, .int .i64 0, .int .i64 0, .slice none 0 0] := by rw [← hV0]; exact Blk.newAt (by simp)
  obtain ⟨⟨x0, x1⟩, ⟨x2, x3⟩, x4, x5⟩ := k0.gcells
  have HU := Lib.hid U0
  have K1 := Lib.hid k1
  have K2 := Lib.hid k2
  clear U0 k0 k1 k2
  go_enter Try.func50, Try.ntmps50
  go_wp2_with fail
  clear hV0
  refine (map_new_no g V0 hr).mono ?_
  rintro r w1 ⟨rfl, hb⟩
  have M1 := Lib.hid ((Keeps.of_below (S := []) hb).blk K1.out.lt (by simp) K1.out)
  have M2 := Lib.hid ((Keeps.of_below (S := []) hb).blk K2.out.lt (by simp) K2.out)
  have HB : Hid (Below w.heap.size w w1) := Lib.hid (HU.out.trans (hb.mono HU.out.size))
  clear hb x0 x1 x2 x3 x4 x5
  go_wp2_with (first
    | (refine wpList_store_blk rfl 53 (.tmp 10) (.tmp 36) rfl (w.heap.size + 1) 0 #[.int .i64 0, .int .i64 0, .int .i64 0, .pointer none] rfl rfl M1.out (Nat.le_refl 4) size_snap (by simp [Value.oneCell']) ?_; intro w2 hG2 hK2 hs2
       have M3 := Lib.hid (hK2.out.blk M2.out.lt (by simp) M2.out))
    | (refine wpList_store_blk rfl 55 (.tmp 11) (.tmp 37) rfl (w.heap.size + 2) 0 #[.int .i64 0, .int .i64 0, .int .i64 0, .int .i64 0, .int .i64 0, .int .i64 0, .int .i64 0, .int .i64 0, .int .i64 0, .slice none 0 0] rfl rfl M3.out (Nat.le_refl 10) size_ref12 (by simp [Value.oneCell']) ?_; intro w3 hG3 hK3 hs3))
  have e2 : Blk w3 (w.heap.size + 2) 55 #[.int .i64 0, .int .i64 0, .int .i64 0, .int .i64 0, .int .i64 0, .int .i64 0, .int .i64 0, .int .i64 0, .int .i64 0, .slice none 0 0] := by have := hG3.out; rwa [over_all rfl] at this
  have e1 : Blk w3 (w.heap.size + 1) 53 #[.int .i64 0, .int .i64 0, .int .i64 0, .pointer none] := by have := hG2.out; rw [over_all rfl] at this; exact hK3.out.blk this.lt (by simp) this
  have r1 : (loadVar 53 ⟨w.heap.size + 1, 0, none⟩).run Try.prog w3 = .ok sn0 w3 := run_loadVar_row _ _ _ _ _ _ _ e1 Try.underlying53 rfl size_snap
  have r2 : (loadVar 55 ⟨w.heap.size + 2, 0, none⟩).run Try.prog w3 = .ok ref0 w3 := run_loadVar_row _ _ _ _ _ _ _ e2 Try.underlying55 rfl size_ref12
  refine bodyPost_ret (v := .tuple #[sn0, ref0, .bool false]) ?_ rfl ⟨rfl, ?_⟩
  · simp [results, Try.results50, asAddr, r1, r2]
  · have kk : Keeps w.heap.size [w.heap.size + 1, w.heap.size + 2] w1 w3 := (hK2.out.mono HB.out.size (by simp)).trans (hK3.out.mono (by have := HB.out.size; have := hK2.out.size; omega) (by simp))
    exact HB.out.trans (Keeps.below kk (by simp))
set_option maxRecDepth 100000 in
theorem made13_long (w : World) (g : G) (A : Option Addr) (n c : Nat) (gen ep nx : Int) (hr : g.right = true) (hn : 60 < n) :
    Calls Try.prog 50 #[g.v, .slice A n c, .int .i64 gen, .int .i64 ep, .int .i64 nx] w fun r w' => r = .returned (.tuple #[sn0, ref0, .bool false]) ∧ Below w.heap.size w w' := by
  obtain ⟨V0, hV0⟩ : ∃ V0, ((w.alloc g.box).alloc (.cells #[.int .i64 0, .int .i64 0, .int .i64 0, .pointer none] 53)).alloc (.cells #[.int .i64 0, .int .i64 0, .int .i64 0, .int .i64 0, .int .i64 0, .int .i64 0, .int .i64 0, .int .i64 0, .int .i64 0, .slice none 0 0] 55) = V0 := ⟨_, rfl⟩
  have U0 : Below w.heap.size w V0 := by rw [← hV0]; exact ((below_box w _).alloc (by simp) _).alloc (by simp <;> omega) _
  have k0 : Blk V0 w.heap.size 23 g.arr := by rw [← hV0]; exact ((Blk.newAt rfl).alloc _).alloc _
  have k1 : Blk V0 (w.heap.size + 1) 53 #[.int .i64 0, .int .i64 0, .int .i64 0, .pointer none] := by rw [← hV0]; exact (Blk.newAt (by simp)).alloc _
  have k2 : Blk V0 (w.heap.size + 2) 55 #[.int .i64 0, .int .i64 0, .int .i64 0, .int .i64 0, .int .i64 0, .int .i64 0, .int .i64 0, .int .i64 0, .int .i64 0, .slice none 0 0] := by rw [← hV0]; exact Blk.newAt (by simp)
  obtain ⟨⟨x0, x1⟩, ⟨x2, x3⟩, x4, x5⟩ := k0.gcells
  have HU := Lib.hid U0
  have K1 := Lib.hid k1
  have K2 := Lib.hid k2
  clear U0 k0 k1 k2
  go_enter Try.func50, Try.ntmps50
  go_wp2_with fail
  clear hV0
  refine (map_new_yes g V0 hr).mono ?_
  rintro r w1 ⟨p, bl, bv, rfl, ⟨n1, n2, n3⟩, hM, hb⟩
  clear hM
  have M1 := Lib.hid ((Keeps.of_below (S := []) hb).blk K1.out.lt (by simp) K1.out)
  have M2 := Lib.hid ((Keeps.of_below (S := []) hb).blk K2.out.lt (by simp) K2.out)
  have HB : Hid (Below w.heap.size w w1) := Lib.hid (HU.out.trans (hb.mono HU.out.size))
  clear hb x0 x1 x2 x3 x4 x5
  go_wp2_with (first
    | (refine wpList_store_blk rfl 53 (.tmp 10) (.tmp 36) rfl (w.heap.size + 1) 0 #[.int .i64 0, .int .i64 0, .int .i64 0, .pointer none] rfl rfl M1.out (Nat.le_refl 4) size_snap (by simp [Value.oneCell']) ?_; intro w2 hG2 hK2 hs2
       have M3 := Lib.hid (hK2.out.blk M2.out.lt (by simp) M2.out))
    | (refine wpList_store_blk rfl 55 (.tmp 11) (.tmp 37) rfl (w.heap.size + 2) 0 #[.int .i64 0, .int .i64 0, .int .i64 0, .int .i64 0, .int .i64 0, .int .i64 0, .int .i64 0, .int .i64 0, .int .i64 0, .slice none 0 0] rfl rfl M3.out (Nat.le_refl 10) size_ref12 (by simp [Value.oneCell']) ?_; intro w3 hG3 hK3 hs3))
  have e2 : Blk w3 (w.heap.size + 2) 55 #[.int .i64 0, .int .i64 0, .int .i64 0, .int .i64 0, .int .i64 0, .int .i64 0, .int .i64 0, .int .i64 0, .int .i64 0, .slice none 0 0] := by have := hG3.out; rwa [over_all rfl] at this
  have e1 : Blk w3 (w.heap.size + 1) 53 #[.int .i64 0, .int .i64 0, .int .i64 0, .pointer none] := by have := hG2.out; rw [over_all rfl] at this; exact hK3.out.blk this.lt (by simp) this
  have r1 : (loadVar 53 ⟨w.heap.size + 1, 0, none⟩).run Try.prog w3 = .ok sn0 w3 := run_loadVar_row _ _ _ _ _ _ _ e1 Try.underlying53 rfl size_snap
  have r2 : (loadVar 55 ⟨w.heap.size + 2, 0, none⟩).run Try.prog w3 = .ok ref0 w3 := run_loadVar_row _ _ _ _ _ _ _ e2 Try.underlying55 rfl size_ref12
  refine bodyPost_ret (v := .tuple #[sn0, ref0, .bool false]) ?_ rfl ⟨rfl, ?_⟩
  · simp [results, Try.results50, asAddr, r1, r2]
  · have kk : Keeps w.heap.size [w.heap.size + 1, w.heap.size + 2] w1 w3 := (hK2.out.mono HB.out.size (by simp)).trans (hK3.out.mono (by have := HB.out.size; have := hK2.out.size; omega) (by simp))
    exact HB.out.trans (Keeps.below kk (by simp))

set_option maxRecDepth 100000 in
set_option maxHeartbeats 2000000 in
theorem made13_yes (w : World) (g : G) (A : Option Addr) (n c : Nat) (ops : List Op11) (h : OpsAt w A n c ops) (s : Sn) (hr : g.right = true) (hn60 : n ≤ 60) :
    Calls Try.prog 50 #[g.v, .slice A n c, .int .i64 s.gen, .int .i64 s.ep, .int .i64 s.nx] w (MadePost w g ops s (.bool (s.right (playL g ops)))) := by
  obtain ⟨hn, hc, hm, hcell⟩ := h
  have hm2 : n ≤ 9223372036854775807 := by omega
  have HN := Lib.hid hn
  have HC := Lib.hid hcell
  clear hn hcell hc hm
  obtain ⟨N1, hN1⟩ : ∃ N1, w.heap.size + 1 = N1 := ⟨_, rfl⟩
  obtain ⟨N2, hN2⟩ : ∃ N2, N1 + 1 = N2 := ⟨_, rfl⟩
  obtain ⟨V0, hV0⟩ : ∃ V0, ((w.alloc g.box).alloc (.cells #[.int .i64 0, .int .i64 0, .int .i64 0, .pointer none] 53)).alloc (.cells #[.int .i64 0, .int .i64 0, .int .i64 0, .int .i64 0, .int .i64 0, .int .i64 0, .int .i64 0, .int .i64 0, .int .i64 0, .slice none 0 0] 55) = V0 := ⟨_, rfl⟩
  have U0 : Below w.heap.size w V0 := by rw [← hV0]; exact ((below_box w _).alloc (by simp) _).alloc (by simp <;> omega) _
  have hs0 : V0.heap.size = w.heap.size + 3 := by rw [← hV0]; simp
  have k0 : Blk V0 w.heap.size 23 g.arr := by rw [← hV0]; exact ((Blk.newAt rfl).alloc _).alloc _
  have k1 : Blk V0 N1 53 #[.int .i64 0, .int .i64 0, .int .i64 0, .pointer none] := by rw [← hV0]; exact (Blk.newAt (by simp; omega)).alloc _
  have k2 : Blk V0 N2 55 #[.int .i64 0, .int .i64 0, .int .i64 0, .int .i64 0, .int .i64 0, .int .i64 0, .int .i64 0, .int .i64 0, .int .i64 0, .slice none 0 0] := by rw [← hV0]; exact Blk.newAt (by simp; omega)
  obtain ⟨⟨x0, x1⟩, ⟨x2, x3⟩, x4, x5⟩ := k0.gcells
  have HU := Lib.hid U0
  have HS0 := Lib.hid hs0
  have K0 := Lib.hid k0
  have K1 := Lib.hid k1
  have K2 := Lib.hid k2
  have HN12 := Lib.hid (And.intro hN1 hN2)
  clear U0 hs0 k0 k1 k2
  refine (callsIn_wide (n := 0)).1 ?_
  refine callsIn_of_wp_marks Try.func50 rfl trivial ?_ rfl
  simp only [Try.ntmps50, List.size_toArray, List.length_cons, List.length_nil, Nat.reduceAdd, Nat.reduceSub, Array.replicate_succ, Array.replicate_zero, List.push_toArray, List.append_toArray, List.nil_append, List.cons_append]
  gi_wp2
  refine ⟨trivial, rfl, ?_⟩
  refine CallsIn.mono (callsIn_wide.2 (map_new_yes g V0 hr)) ?_
  rintro r w1 ⟨p, bl, bv, rfl, ⟨n1, n2, n3⟩, hM, hb⟩
  have HM := Lib.hid hM
  have HB := Lib.hid hb
  have HNN : Hid (w.heap.size + 3 ≤ p ∧ w.heap.size + 3 ≤ bl ∧ w.heap.size + 3 ≤ bv) := by have := HS0.out; exact Lib.hid ⟨by omega, by omega, by omega⟩
  clear hN1 hN2 hM hb hV0 x0 x1 x2 x3 x4 x5 n1 n2 n3
  gi_wp2
  gi_loopw [40] (fun i wr => ∃ (k : Nat) (lv : List Int), k ≤ n ∧ i = .int .i64 k ∧ MapAt wr p bl bv g (playL g (ops.take k)) lv ∧ MapOk g (playL g (ops.take k)) lv ∧ Below (w.heap.size + 3) V0 wr) (fun i _ => n - (intOf i).toNat)
  case atStart => exact ⟨0, noLive g, Nat.zero_le _, rfl, HM.out, MapOk.new hr, by have := HB.out; rwa [HS0.out] at this⟩
  case round =>
    obtain ⟨k, lv, hk, rfl, hM, hO, hB⟩ := hrel
    have HMr := Lib.hid hM
    have HOr := Lib.hid hO
    have HBr := Lib.hid hB
    clear hM hO hB
    by_cases hlt : k < n
    · obtain ⟨o, ho⟩ : ∃ o, ops[k]? = some o := ⟨_, List.getElem?_eq_getElem (by rw [HN.out]; exact hlt)⟩
      obtain ⟨b, off, hA, hbl, hcs⟩ := HC.out (by omega)
      obtain ⟨c0, c1, c2, c3, c4, c5, c6⟩ := hcs k o ho
      subst hA
      have hBw : Below w.heap.size w wr := HU.out.trans (HBr.out.mono (by omega))
      have hcw : ∀ j, wr.cell? ⟨b, j, none⟩ = w.cell? ⟨b, j, none⟩ := fun j => hBw.cell (p := ⟨b, j, none⟩) hbl
      rw [← hcw] at c0 c1 c2 c3 c4 c5 c6
      have hps := playL_snoc g ops k o ho
      have HPS := Lib.hid hps
      have nbl := hBw.size
      obtain ⟨W2, hW2⟩ : ∃ W2, wr.alloc (.cells #[.int .i64 o.b, .int .i64 o.e.st, .int .i64 o.e.zn, .int .i64 o.e.mt, .int .i64 o.e.off, .int .i64 o.e.sq, .int .i64 o.e.sm] 166) = W2 := ⟨_, rfl⟩
      have q2 : Blk W2 wr.heap.size 166 #[.int .i64 o.b, .int .i64 o.e.st, .int .i64 o.e.zn, .int .i64 o.e.mt, .int .i64 o.e.off, .int .i64 o.e.sq, .int .i64 o.e.sm] := by rw [← hW2]; exact Blk.newAt rfl
      have b2 : Below wr.heap.size wr W2 := by rw [← hW2]; exact below_box _ _
      have d0 : W2.cell? ⟨wr.heap.size, 0, none⟩ = some (.int .i64 o.b) := by rw [q2.cell]; rfl
      have d1 : W2.cell? ⟨wr.heap.size, 1, none⟩ = some (.int .i64 o.e.st) := by rw [q2.cell]; rfl
      have d2 : W2.cell? ⟨wr.heap.size, 2, none⟩ = some (.int .i64 o.e.zn) := by rw [q2.cell]; rfl
      have d3 : W2.cell? ⟨wr.heap.size, 3, none⟩ = some (.int .i64 o.e.mt) := by rw [q2.cell]; rfl
      have d4 : W2.cell? ⟨wr.heap.size, 4, none⟩ = some (.int .i64 o.e.off) := by rw [q2.cell]; rfl
      have d5 : W2.cell? ⟨wr.heap.size, 5, none⟩ = some (.int .i64 o.e.sq) := by rw [q2.cell]; rfl
      have d6 : W2.cell? ⟨wr.heap.size, 6, none⟩ = some (.int .i64 o.e.sm) := by rw [q2.cell]; rfl
      have HB2 := Lib.hid b2
      clear hcs ho hcw hps hBw q2 b2
      gi_wp2
      refine ⟨trivial, rfl, ?_⟩
      clear hW2
      refine CallsIn.mono (callsIn_wide.2 (map_set W2 p bl bv g _ lv (HMr.out.grow HB2.out) HOr.out o.b o.e)) ?_
      rintro r w3 ⟨rfl, hM3, hK3⟩
      have HM3 := Lib.hid hM3
      have HK3 := Lib.hid hK3
      clear hM3 hK3 c0 c1 c2 c3 c4 c5 c6 d0 d1 d2 d3 d4 d5 d6
      gi_wp2
      go_roundw
      case rel =>
        refine ⟨k + 1, _, by omega, by simp, by rw [HPS.out]; exact HM3.out, by rw [HPS.out]; exact HOr.out.setv o.b o.e, ?_⟩
        have s2 := HB2.out.size
        exact HBr.out.trans (((HB2.out.mono (by have := HBr.out.size; have := HS0.out; omega))).trans (Keeps.below (HK3.out.mono (by have := HBr.out.size; have := HS0.out; omega) (fun i hi => hi)) (by have := HNN.out; simp; omega)))
      case measure => simp [intOf]; omega
    · obtain rfl : k = n := by omega
      have hfull : ops.take k = ops := by rw [← HN.out]; exact List.take_of_length_le (Nat.le_refl _)
      have hM := HMr.out
      have hO := HOr.out
      rw [hfull] at hM hO
      obtain ⟨l, hl⟩ : ∃ l, playL g ops = l := ⟨_, rfl⟩
      rw [hl] at hM hO
      have sr : w.heap.size + 3 ≤ wr.heap.size := by have := HBr.out.size; have := HS0.out; omega
      have r0 := (Keeps.of_below (S := []) HBr.out).blk (by have := HS0.out; omega) (by simp) K0.out
      have r1 := Lib.hid ((Keeps.of_below (S := []) HBr.out).blk (by have := HS0.out; have := HN12.out; omega) (by simp) K1.out)
      have r2 := Lib.hid ((Keeps.of_below (S := []) HBr.out).blk (by have := HS0.out; have := HN12.out; omega) (by simp) K2.out)
      obtain ⟨⟨x0, x1⟩, ⟨x2, x3⟩, x4, x5⟩ := r0.gcells
      obtain ⟨X1, hX1⟩ : ∃ X1, wr.alloc (.cells (refArr s g (.slice none 0 0)) 55) = X1 := ⟨_, rfl⟩
      have bX : Below wr.heap.size wr X1 := by rw [← hX1]; exact below_box _ _
      have mX : Blk X1 wr.heap.size 55 (refArr s g (.slice none 0 0)) := by rw [← hX1]; exact Blk.newAt rfl
      have hcall := Lib.hid (map_all_made X1 p bl bv g l lv (hM.grow bX))
      have HL := Lib.hid hl
      have HM := Lib.hid hM
      have HO := Lib.hid hO
      have HBX := Lib.hid bX
      have HMX := Lib.hid mX
      have HX1 := Lib.hid hX1
      clear hfull hM hO hl r0 bX mX HMr HOr hX1
      gi_wp2
      refine ⟨trivial, rfl, ?_⟩
      rw [HX1.out]
      refine CallsIn.mono (callsIn_wide.2 hcall.out) ?_
      rintro r w2 ⟨rfl, hb2, hs2, hc2⟩
      have hz : l.length ≤ 1000 := HO.out.len1000
      have hML := HM.out.lt
      have sX := HMX.out.lt
      have hblM : bl ≠ wr.heap.size := by omega
      have hit := MapAt.iterW (HM.out.grow HBX.out) hz hb2 hs2 hc2 [wr.heap.size] (by simp; omega)
      have HIT := Lib.hid hit
      have m2 := (Keeps.of_below (S := []) hb2).blk sX (by simp) HMX.out
      have HB2 : Hid (Below wr.heap.size wr w2) := Lib.hid (HBX.out.trans (hb2.mono HBX.out.size))
      have HM2 := Lib.hid m2
      have sM : wr.heap.size < w2.heap.size := by omega
      clear hit hb2 hs2 hc2 hcall m2 x0 x1 x2 x3 x4 x5 HMX HBX
      gi_wp2
      refine range_go (gf := 139) (lb := #[.pointer (some ⟨X1.heap.size, 0, none⟩)]) (encs := fun x : Nat × E => #[.int .i64 x.1, x.2.v]) (xs := enum l) (S := [wr.heap.size]) rfl (enters_of Try.func139 (by kernel_rfl) rfl) HIT.out ?hS (fun _ => rfl)
        (MadeI w2 wr.heap.size s g) (fun _ _ _ => False) ?hI ?hIx ?h0 ?hround ?hdone ?hstop
      case hS => simp; omega
      case hI => exact fun q X Y h hx k => MadeI.keeps h sM hx k
      case hIx => exact fun _ _ _ _ h _ _ => h
      case h0 => exact ⟨_, HM2.out, World.ownsRow_nil _ _ _ _, Keeps.refl _ _ _, by omega⟩
      case hstop => exact fun _ _ _ _ _ _ _ _ h _ => h.elim
      case hround =>
        rintro m l' pre ⟨kk, e⟩ rest V rfl hx ⟨v, a1, a2, a3, a4⟩ hlt1
        obtain ⟨i0, hi, hz0, hz1, hz2⟩ := info_parts info_refE
        have hpl : pre.length ≤ 1000 := by
          have := congrArg List.length hx
          rw [enum_length, List.length_append] at this
          omega
        gi_wp2
        refine ⟨below_box _ _, fun V2 kv hsv => ?_⟩
        rw [World.size_alloc] at kv hsv
        have kvv : Keeps V.heap.size [w2.heap.size, w2.heap.size + 1] V V2 := (Keeps.of_below (below_box V e.box)).trans (kv.mono (by omega) (by simp))
        have b1 := kvv.blk a1.lt (by simp; omega) a1
        have e2 : Blk V2 V.heap.size 31 e.arr := kv.blk (by omega) (by simp; omega) (Blk.newAt rfl)
        have o2 := own_keeps_v kvv (fun g' hg' => by have := World.ownsRow.lt a2 g' hg'; exact ⟨this.2, by simp; omega⟩) a2
        obtain ⟨⟨y0, y1⟩, ⟨y2, y3⟩, y4, y5⟩ := EntBlk.cells e2
        have c9 : V2.cell? ⟨wr.heap.size, 9, none⟩ = some v := by rw [b1.cell]; rfl
        have hBV := Lib.hid b1
        have HE2 := Lib.hid e2
        have HO2 := Lib.hid o2
        have HK2 := Lib.hid (kvv.size)
        have HA3 := Lib.hid a3
        have sV : wr.heap.size < V2.heap.size := by omega
        have sV2 : w2.heap.size + 2 ≤ V2.heap.size := by omega
        have HKV : Hid (Keeps w2.heap.size [wr.heap.size] V V2) := Lib.hid (((Keeps.of_below (below_box V e.box)).mono (by omega) (fun i hi => hi)).trans ((kv.mono (B' := w2.heap.size) (S' := [w2.heap.size + 1]) (by omega) (by simp)).drop (by simp)))
        clear a1 a2 a3 hx kv kvv b1 e2 o2 hsv
        obtain ⟨V3, hV3⟩ : ∃ V3, V2.alloc (.cells #[.int .i64 e.st, .int .i64 e.zn, .int .i64 e.mt, .int .i64 e.off, .int .i64 e.sq, .int .i64 e.sm] 46) = V3 := ⟨_, rfl⟩
        have R3 : Hid (V3.ownsRow (w2.heap.size + 2) 46 6 v pre.length (flat (pre.map (·.2)))) := by rw [← hV3]; exact Lib.hid (World.ownsRow.alloc HO2.out _)
        have X3 : Hid (∀ j u, e.cells[j]? = some u → V3.cell? ((⟨V2.heap.size, 0, none⟩ : Addr).add j) = some u) := by
          rw [← hV3]
          exact Lib.hid fun j u hu => by rw [Addr.add_nat_zero, cell_of_row _ _ j e.arr _ (0, 0) (World.alloc_heap_new V2 _)]; simpa using hu
        have S3 : Hid (V3.heap.size = V2.heap.size + 1) := by rw [← hV3]; exact Lib.hid (by simp)
        have B3 : Hid (Below V2.heap.size V2 V3) := by rw [← hV3]; exact Lib.hid (below_box _ _)
        have N3 := Lib.hid ((Keeps.of_below (S := []) B3.out).blk sV (by simp) hBV.out)
        gi_wp2_with (gi_at_builtin; refine Hid.out ?_)
        refine Lib.hid ?_
        clear hV3
        refine wpListIn_append_own _ rfl _ _ 44 rfl (w2.heap.size + 2) 46 i0 E0.v 6 48 Try.underlying44 hi hz0 hz1 hz2 rfl (by omega) v pre.length (flat (pre.map fun x : Nat × E => x.2)) rfl R3.out ⟨V2.heap.size, 0, none⟩ 1 1 e.cells rfl rfl X3.out (by simp [Value.oneCell']) (by unfold maxLen; omega) (by omega) (by have := S3.out; omega) ?_
        intro v' W5 hown' hgrow hnil
        have hne : v.ownBlock ≠ some wr.heap.size := fun h => by have := (World.ownsRow.lt R3.out _ h).1; omega
        have m5 : Blk W5 wr.heap.size 55 (refArr s g v) := (World.grownBy.block hgrow _ (by have := S3.out; omega) (fun e => hne e.symm)).trans N3.out
        have k5 : Keeps w2.heap.size [wr.heap.size] V W5 := by
          refine (HKV.out.trans (Keeps.of_below (B3.out.mono (by omega)))).trans ⟨hgrow.os, hgrow.tape, hgrow.output, hgrow.size, fun i hi _ => hgrow.block i (by have := S3.out; omega) (fun e => by have := (World.ownsRow.lt R3.out i e.symm).1; omega)⟩
        obtain ⟨g5, c5, rfl⟩ := own_succ hown'
        have z9 : W5.cell? ⟨wr.heap.size, 9, none⟩ = some v := by rw [m5.cell]; rfl
        have f9 := m5.frozen 9
        have l9 := m5.lt
        have k6 : Keeps w2.heap.size [wr.heap.size] V (W5.setCell ⟨wr.heap.size, 9, none⟩ (.slice (some ⟨g5, 0, none⟩) (pre.length + 1) c5)) := k5.setCell _ _ (.inl (by simp))
        have m6 : Blk (W5.setCell ⟨wr.heap.size, 9, none⟩ (.slice (some ⟨g5, 0, none⟩) (pre.length + 1) c5)) wr.heap.size 55 (refArr s g (.slice (some ⟨g5, 0, none⟩) (pre.length + 1) c5)) := by simpa using m5.set_ 9 _
        have o6 : (W5.setCell ⟨wr.heap.size, 9, none⟩ (.slice (some ⟨g5, 0, none⟩) (pre.length + 1) c5)).ownsRow (w2.heap.size + 2) 46 6 (.slice (some ⟨g5, 0, none⟩) (pre.length + 1) c5) (pre.length + 1) (flat (pre.map (·.2)) ++ e.cells) :=
          own_keeps_v (B := W5.heap.size) (S := [wr.heap.size]) ((Keeps.refl _ _ _).setCell _ _ (.inl (by simp))) (fun g' hg' => by have := World.ownsRow.lt hown' g' hg'; exact ⟨this.2, by simp; omega⟩) hown'
        have z6 := k6.size
        have M6 := Lib.hid m6
        have K6 := Lib.hid k6
        have O6 := Lib.hid o6
        have K5 : Hid (Keeps (w2.heap.size + 2) [wr.heap.size] V2 (W5.setCell ⟨wr.heap.size, 9, none⟩ (.slice (some ⟨g5, 0, none⟩) (pre.length + 1) c5))) := by
          refine Lib.hid (Keeps.setCell ?_ _ _ (.inl (by simp)))
          exact (Keeps.of_below (B3.out.mono (by omega))).trans ⟨hgrow.os, hgrow.tape, hgrow.output, hgrow.size, fun i hi _ => hgrow.block i (by have := S3.out; omega) (fun e => by have := (World.ownsRow.lt R3.out i e.symm).1; omega)⟩
        clear hown' hgrow hnil m5 k5 k6 m6 o6
        gi_wp2
        refine ⟨⟨_, M6.out, ?_, HA3.out.trans K6.out, by omega⟩, K5.out⟩
        have e1 : flat ((pre ++ [(kk, e)]).map (·.2)) = flat (pre.map (·.2)) ++ e.cells := by rw [List.map_append, flat_append]; simp [flat]
        rw [e1, List.length_append]
        exact O6.out
      case hdone =>
        rintro D V hD ⟨v, a1, a2, a3, a4⟩ hK
        rw [enum_length, enum_map] at a2
        have hB1 := (G.small_of_right hr).B0
        obtain ⟨g6, c6, rfl⟩ := own_pos a2 (by have := HO.out.len; omega)
        have bV : Below wr.heap.size wr V := HB2.out.trans (Keeps.below (a3.mono (by omega) (fun i hi => hi)) (by simp))
        have s1 := (Keeps.of_below (S := []) bV).blk r1.out.lt (by simp) r1.out
        have s2 := (Keeps.of_below (S := []) bV).blk r2.out.lt (by simp) r2.out
        have mV := HM.out.grow bV
        have hrest : Hid (Below w.heap.size w V ∧ w.heap.size + 3 ≤ wr.heap.size ∧ wr.heap.size < V.heap.size ∧ w2.heap.size + 2 ≤ g6 ∧ g6 < V.heap.size) := by
          have h1 := World.ownsRow.lt a2 g6 rfl
          exact Lib.hid ⟨HU.out.trans ((HBr.out.mono (by omega)).trans (bV.mono (by omega))), sr, by have := a1.lt; omega, h1.1, h1.2⟩
        have hfrom := @From.cell V
        have nM := a1.lt
        have m0 : V.cell? ⟨wr.heap.size, 0, none⟩ = some (.int .i64 s.gen) := by rw [a1.cell]; rfl
        have m1 : V.cell? ⟨wr.heap.size, 1, none⟩ = some (.int .i64 s.ep) := by rw [a1.cell]; rfl
        have m2 : V.cell? ⟨wr.heap.size, 2, none⟩ = some (.int .i64 s.nx) := by rw [a1.cell]; rfl
        have m3 : V.cell? ⟨wr.heap.size, 3, none⟩ = some (.int .i64 g.D) := by rw [a1.cell]; rfl
        have m4 : V.cell? ⟨wr.heap.size, 4, none⟩ = some (.int .i64 g.Z) := by rw [a1.cell]; rfl
        have m5 : V.cell? ⟨wr.heap.size, 5, none⟩ = some (.int .i64 g.S) := by rw [a1.cell]; rfl
        have m6 : V.cell? ⟨wr.heap.size, 6, none⟩ = some (.int .i64 g.B) := by rw [a1.cell]; rfl
        have m7 : V.cell? ⟨wr.heap.size, 7, none⟩ = some (.int .i64 g.P) := by rw [a1.cell]; rfl
        have m8 : V.cell? ⟨wr.heap.size, 8, none⟩ = some (.int .i64 g.O) := by rw [a1.cell]; rfl
        have m9 : V.cell? ⟨wr.heap.size, 9, none⟩ = some (.slice (some ⟨g6, 0, none⟩) l.length c6) := by rw [a1.cell]; rfl
        have HA2 := Lib.hid a2
        have HS1 := Lib.hid s1
        have HS2 := Lib.hid s2
        have HMV := Lib.hid mV
        have HKV := Lib.hid hK
        clear a1 a2 a3 a4 bV s1 s2 mV hK hB1
        gi_wp2_with fail
        refine wpIn_wide.2 ?_
        have ne1 : ¬ N1 = wr.heap.size := by have := HN12.out; omega
        have ne2 : ¬ N2 = wr.heap.size := by have := HN12.out; omega
        have ne1' : ¬ wr.heap.size = N1 := by have := HN12.out; omega
        have ne2' : ¬ wr.heap.size = N2 := by have := HN12.out; omega
        have ne3 : ¬ N1 = N2 := by have := HN12.out; omega
        have ne3' : ¬ N2 = N1 := by have := HN12.out; omega
        have fz1 := fun j => HS1.out.frozen j
        have fz2 := fun j => HS2.out.frozen j
        have a0 : V.cell? ⟨N1, 0, none⟩ = some (.int .i64 0) := by rw [HS1.out.cell]; rfl
        have a1 : V.cell? ⟨N1, 1, none⟩ = some (.int .i64 0) := by rw [HS1.out.cell]; rfl
        have a2 : V.cell? ⟨N1, 2, none⟩ = some (.int .i64 0) := by rw [HS1.out.cell]; rfl
        have a3 : V.cell? ⟨N1, 3, none⟩ = some (.pointer none) := by rw [HS1.out.cell]; rfl
        have b0 : V.cell? ⟨N2, 0, none⟩ = some (.int .i64 0) := by rw [HS2.out.cell]; rfl
        have b1 : V.cell? ⟨N2, 1, none⟩ = some (.int .i64 0) := by rw [HS2.out.cell]; rfl
        have b2 : V.cell? ⟨N2, 2, none⟩ = some (.int .i64 0) := by rw [HS2.out.cell]; rfl
        have b3 : V.cell? ⟨N2, 3, none⟩ = some (.int .i64 0) := by rw [HS2.out.cell]; rfl
        have b4 : V.cell? ⟨N2, 4, none⟩ = some (.int .i64 0) := by rw [HS2.out.cell]; rfl
        have b5 : V.cell? ⟨N2, 5, none⟩ = some (.int .i64 0) := by rw [HS2.out.cell]; rfl
        have b6 : V.cell? ⟨N2, 6, none⟩ = some (.int .i64 0) := by rw [HS2.out.cell]; rfl
        have b7 : V.cell? ⟨N2, 7, none⟩ = some (.int .i64 0) := by rw [HS2.out.cell]; rfl
        have b8 : V.cell? ⟨N2, 8, none⟩ = some (.int .i64 0) := by rw [HS2.out.cell]; rfl
        have b9 : V.cell? ⟨N2, 9, none⟩ = some (.slice none 0 0) := by rw [HS2.out.cell]; rfl
        have hml := nM
        have HTK : Hid (∀ W, Below V.heap.size V W → W.cell? ⟨wr.heap.size, 0, none⟩ = some (.int .i64 s.gen) ∧ W.cell? ⟨wr.heap.size, 1, none⟩ = some (.int .i64 s.ep) ∧ W.cell? ⟨wr.heap.size, 2, none⟩ = some (.int .i64 s.nx) ∧ W.cell? ⟨wr.heap.size, 3, none⟩ = some (.int .i64 g.D) ∧ W.cell? ⟨wr.heap.size, 4, none⟩ = some (.int .i64 g.Z) ∧ W.cell? ⟨wr.heap.size, 5, none⟩ = some (.int .i64 g.S) ∧ W.cell? ⟨wr.heap.size, 6, none⟩ = some (.int .i64 g.B) ∧ W.cell? ⟨wr.heap.size, 7, none⟩ = some (.int .i64 g.P) ∧ W.cell? ⟨wr.heap.size, 8, none⟩ = some (.int .i64 g.O) ∧ W.cell? ⟨wr.heap.size, 9, none⟩ = some (.slice (some ⟨g6, 0, none⟩) l.length c6)) := Lib.hid fun W k => by
          have hc : ∀ o, W.cell? ⟨wr.heap.size, o, none⟩ = V.cell? ⟨wr.heap.size, o, none⟩ := fun o => k.cell (p := ⟨wr.heap.size, o, none⟩) hml
          simp only [hc]
          exact ⟨m0, m1, m2, m3, m4, m5, m6, m7, m8, m9⟩
        obtain ⟨t, ht⟩ : ∃ t, Hid (s.right l = t) := ⟨_, Lib.hid rfl⟩
        have HCALL : Hid (∀ W, Below V.heap.size V W → Calls Try.prog 44 #[.agg (refArr s g (.slice (some ⟨g6, 0, none⟩) l.length c6))] W fun r w' => r = .returned (.bool t) ∧ Below W.heap.size W w') := Lib.hid fun W k =>
          ref12_right_v W s g g6 c6 l HO.out.len1000 (Nat.lt_of_lt_of_le hrest.out.2.2.2.2 k.size) (fun _ _ he => own_ent (own_lower (own_grow' HA2.out k) (Nat.zero_le _)) he) t ht.out
        go_region_held3 (fun w' => w'.cell? ⟨wr.heap.size, 0, none⟩ = some (.int .i64 s.gen) ∧ w'.cell? ⟨wr.heap.size, 1, none⟩ = some (.int .i64 s.ep) ∧ w'.cell? ⟨wr.heap.size, 2, none⟩ = some (.int .i64 s.nx) ∧ w'.cell? ⟨wr.heap.size, 3, none⟩ = some (.int .i64 g.D) ∧ w'.cell? ⟨wr.heap.size, 4, none⟩ = some (.int .i64 g.Z) ∧ w'.cell? ⟨wr.heap.size, 5, none⟩ = some (.int .i64 g.S) ∧ w'.cell? ⟨wr.heap.size, 6, none⟩ = some (.int .i64 g.B) ∧ w'.cell? ⟨wr.heap.size, 7, none⟩ = some (.int .i64 g.P) ∧ w'.cell? ⟨wr.heap.size, 8, none⟩ = some (.int .i64 g.O) ∧ w'.cell? ⟨wr.heap.size, 9, none⟩ = some (.slice (some ⟨g6, 0, none⟩) l.length c6)) (first | (go_keep; done) | exact HTK.out _ hb7) ((go_at_call 44; refine (HCALL.out _ (below_drew (Below.refl _ _))).mono ?_; rintro e V7 ⟨rfl, hb7'⟩; have hb7 : Below V.heap.size V V7 := (below_drew (Below.refl _ _)).trans hb7'; have H17 := Lib.hid ((Keeps.of_below (S := []) hb7).blk HS1.out.lt (by simp) HS1.out); have H27 := Lib.hid ((Keeps.of_below (S := []) hb7).blk HS2.out.lt (by simp) HS2.out); have fz17 := fun j => H17.out.frozen j; have fz27 := fun j => H27.out.frozen j; have a0 : V7.cell? ⟨N1, 0, none⟩ = some (.int .i64 0) := (H17.out.cell 0).trans rfl; have a1 : V7.cell? ⟨N1, 1, none⟩ = some (.int .i64 0) := (H17.out.cell 1).trans rfl; have a2 : V7.cell? ⟨N1, 2, none⟩ = some (.int .i64 0) := (H17.out.cell 2).trans rfl; have a3 : V7.cell? ⟨N1, 3, none⟩ = some (.pointer none) := (H17.out.cell 3).trans rfl; have b0 : V7.cell? ⟨N2, 0, none⟩ = some (.int .i64 0) := (H27.out.cell 0).trans rfl; have b1 : V7.cell? ⟨N2, 1, none⟩ = some (.int .i64 0) := (H27.out.cell 1).trans rfl; have b2 : V7.cell? ⟨N2, 2, none⟩ = some (.int .i64 0) := (H27.out.cell 2).trans rfl; have b3 : V7.cell? ⟨N2, 3, none⟩ = some (.int .i64 0) := (H27.out.cell 3).trans rfl; have b4 : V7.cell? ⟨N2, 4, none⟩ = some (.int .i64 0) := (H27.out.cell 4).trans rfl; have b5 : V7.cell? ⟨N2, 5, none⟩ = some (.int .i64 0) := (H27.out.cell 5).trans rfl; have b6 : V7.cell? ⟨N2, 6, none⟩ = some (.int .i64 0) := (H27.out.cell 6).trans rfl; have b7 : V7.cell? ⟨N2, 7, none⟩ = some (.int .i64 0) := (H27.out.cell 7).trans rfl; have b8 : V7.cell? ⟨N2, 8, none⟩ = some (.int .i64 0) := (H27.out.cell 8).trans rfl; have b9 : V7.cell? ⟨N2, 9, none⟩ = some (.slice none 0 0) := (H27.out.cell 9).trans rfl))
        have HB7 := Lib.hid hb7
        have HS1 := H17
        have HS2 := H27
        have HMV := Lib.hid (HMV.out.grow hb7)
        have HKV := Lib.hid ((hb7.block D (Array.getElem?_eq_some_iff.1 HKV.out).1).trans HKV.out)
        have HA2 := Lib.hid (own_grow' HA2.out hb7)
        have hrest : Hid (Below w.heap.size w V7 ∧ w.heap.size + 3 ≤ wr.heap.size ∧ wr.heap.size < V7.heap.size ∧ w2.heap.size + 2 ≤ g6 ∧ g6 < V7.heap.size) := Lib.hid ⟨hrest.out.1.trans (hb7.mono hrest.out.1.size), hrest.out.2.1, Nat.lt_of_lt_of_le hrest.out.2.2.1 hb7.size, hrest.out.2.2.2.1, Nat.lt_of_lt_of_le hrest.out.2.2.2.2 hb7.size⟩
        clear hb7 hb7' HTK HCALL
        obtain ⟨w5, h5⟩ : ∃ w5, ((((V7).setCell ⟨N1, 0, none⟩ (.int .i64 s.gen)).setCell ⟨N1, 1, none⟩ (.int .i64 s.ep)).setCell ⟨N1, 2, none⟩ (.int .i64 s.nx)).setCell ⟨N1, 3, none⟩ (.pointer (some ⟨p, 0, none⟩)) = w5 := ⟨_, rfl⟩
        obtain ⟨w6, h6⟩ : ∃ w6, ((((((((((w5).setCell ⟨N2, 0, none⟩ (.int .i64 s.gen)).setCell ⟨N2, 1, none⟩ (.int .i64 s.ep)).setCell ⟨N2, 2, none⟩ (.int .i64 s.nx)).setCell ⟨N2, 3, none⟩ (.int .i64 g.D)).setCell ⟨N2, 4, none⟩ (.int .i64 g.Z)).setCell ⟨N2, 5, none⟩ (.int .i64 g.S)).setCell ⟨N2, 6, none⟩ (.int .i64 g.B)).setCell ⟨N2, 7, none⟩ (.int .i64 g.P)).setCell ⟨N2, 8, none⟩ (.int .i64 g.O)).setCell ⟨N2, 9, none⟩ (.slice (some ⟨g6, 0, none⟩) l.length c6) = w6 := ⟨_, rfl⟩
        have q1 : Blk w5 N1 53 (s.arr p) := by rw [← h5]; simpa using ((((HS1.out).set_ 0 _).set_ 1 _).set_ 2 _).set_ 3 _
        have k5 : Keeps V7.heap.size [N1] V7 w5 := by rw [← h5]; exact (((((Keeps.refl _ _ _).setCell _ _ (.inl (by simp))).setCell _ _ (.inl (by simp))).setCell _ _ (.inl (by simp))).setCell _ _ (.inl (by simp)))
        have q2 : Blk w6 N2 55 (refArr s g (.slice (some ⟨g6, 0, none⟩) l.length c6)) := by rw [← h6]; simpa using (((((((((((k5.blk HS2.out.lt (by simpa using ne3') HS2.out)).set_ 0 _).set_ 1 _).set_ 2 _).set_ 3 _).set_ 4 _).set_ 5 _).set_ 6 _).set_ 7 _).set_ 8 _).set_ 9 _
        have k6 : Keeps w5.heap.size [N2] w5 w6 := by rw [← h6]; exact (((((((((((Keeps.refl _ _ _).setCell _ _ (.inl (by simp))).setCell _ _ (.inl (by simp))).setCell _ _ (.inl (by simp))).setCell _ _ (.inl (by simp))).setCell _ _ (.inl (by simp))).setCell _ _ (.inl (by simp))).setCell _ _ (.inl (by simp))).setCell _ _ (.inl (by simp))).setCell _ _ (.inl (by simp))).setCell _ _ (.inl (by simp)))
        have z5 : w5.heap.size = V7.heap.size := by rw [← h5]; simp
        have z6 : w6.heap.size = V7.heap.size := by rw [← h6]; simp [z5]
        rw [h5, h6]
        have kk : Keeps V7.heap.size [N1, N2] V7 w6 := ((k5.mono (Nat.le_refl _) (by simp)).trans (k6.mono (by omega) (by simp)))
        have p1 : Blk w6 N1 53 (s.arr p) := k6.blk q1.lt (by simpa using ne3) q1
        have p2 : Blk w6 N2 55 (refArr s g (.slice (some ⟨g6, 0, none⟩) l.length c6)) := q2
        have hDn : D ≠ N1 ∧ D ≠ N2 := by have := HN12.out; omega
        have d9 : w6.heap[D]? = some (.deferred (some [])) := (kk.block D (Array.getElem?_eq_some_iff.1 HKV.out).1 (by simpa using hDn)).trans HKV.out
        have hrs := hrest.out
        have hDV : D < V7.heap.size := (Array.getElem?_eq_some_iff.1 HKV.out).1
        have z7 : w6.heap.size = V7.heap.size := z6
        obtain ⟨W9, hW9⟩ : ∃ W9, w6 = W9 := ⟨_, rfl⟩
        rw [hW9] at kk p1 p2 d9 z7 ⊢
        have KK := Lib.hid kk
        have P1 := Lib.hid p1
        have P2 := Lib.hid p2
        have D9 := Lib.hid d9
        have Z7 := Lib.hid z7
        clear h5 h6 q1 k5 q2 k6 z5 z6 kk p1 p2 d9 z7 hW9 a0 a1 a2 a3 b0 b1 b2 b3 b4 b5 b6 b7 b8 b9 m0 m1 m2 m3 m4 m5 m6 m7 m8 m9 hfrom fz1 fz2
        gi_wp2
        have kF : Keeps V7.heap.size [N1, N2, D] V7 (W9.putObj D (.deferred none)) := (KK.out.mono (Nat.le_refl _) (by simp)).putObj D _ (.inl (by simp))
        have kG : Keeps W9.heap.size [D] W9 (W9.putObj D (.deferred none)) := (Keeps.refl _ _ _).putObj D _ (.inl (by simp))
        have e1 := kG.blk P1.out.lt (by simpa using fun h => hDn.1 h.symm) P1.out
        have e2 := kG.blk P2.out.lt (by simpa using fun h => hDn.2 h.symm) P2.out
        have r1 : (loadVar 53 ⟨N1, 0, none⟩).run Try.prog (W9.putObj D (.deferred none)) = .ok (s.v p) _ := run_loadVar_row _ _ _ _ _ _ _ e1 Try.underlying53 rfl size_snap
        have r2 : (loadVar 55 ⟨N2, 0, none⟩).run Try.prog (W9.putObj D (.deferred none)) = .ok (.agg (refArr s g (.slice (some ⟨g6, 0, none⟩) l.length c6))) _ := run_loadVar_row _ _ _ _ _ _ _ e2 Try.underlying55 rfl size_ref12
        refine ⟨by simp, .inl ⟨_, _, rfl, run_takeDeferred D9.out, ?_⟩⟩
        refine ⟨.tuple #[s.v p, .agg (refArr s g (.slice (some ⟨g6, 0, none⟩) l.length c6)), .bool t], ?_, ?_⟩
        · simp [results, Try.results50, asAddr, r1, r2]
        · have n12 := HN12.out
          have nn := HNN.out
          refine ⟨p, bl, bv, lv, g6, c6, by rw [HL.out, ht.out], ?_, by rw [HL.out]; exact HO.out, ?_, ⟨by omega, by omega, by omega, by omega⟩, ?_⟩
          · rw [HL.out]
            have hml := HM.out.lt
            exact HMV.out.keeps kF ⟨by omega, by simp; omega⟩ ⟨by omega, by simp; omega⟩ ⟨by omega, by simp; omega⟩
          · rw [HL.out]
            have ho := own_keeps_v kF (fun g' hg' => by
              have := World.ownsRow.lt HA2.out g' hg'
              obtain rfl : g6 = g' := by simpa [Value.ownBlock] using hg'
              refine ⟨this.2, ?_⟩
              simp
              refine ⟨by omega, by omega, ?_⟩
              rintro rfl
              have hd := HKV.out
              obtain ⟨_, c', cur, e', _, hh, _⟩ := (HA2.out.2).resolve_left (by rintro ⟨h, _⟩; cases h)
              injection e' with e' _ _
              injection e' with e'
              injection e' with e' _ _
              rw [← e'] at hh
              rw [hh] at hd
              cases hd) HA2.out
            exact (own_grow (w1 := W9.putObj D (.deferred none)) ho (Below.refl _ _)).1
          · exact hrs.1.trans (Keeps.below (kF.mono hrs.1.size (fun i hi => hi)) (by simp; omega))
end Go.Proofs.Ytcgafnmpfdkfoaa
/- Layer 13: which copy counts: the order, the greatest. -/
namespace Go.Proofs.Ytcgafnmpfdkfoaa
open Go.RowKit

/-- A copy whose snapshot has a Gen alone: its zone, its Gen. -/
structure Cp where
  z : Int
  g : Int
abbrev Cp.arr (c : Cp) : Array Value := #[.int .i64 c.z, .int .i64 c.g, .int .i64 0, .int .i64 0, .pointer none]
abbrev Cp.v (c : Cp) : Value := .agg #[.int .i64 c.z, .int .i64 c.g, .int .i64 0, .int .i64 0, .pointer none]
abbrev Cp.box (c : Cp) : Obj := .cells #[.int .i64 c.z, .int .i64 c.g, .int .i64 0, .int .i64 0, .pointer none] 93
def sgn (a b : Int) : Int := if a < b then -1 else if b < a then 1 else 0
def Cp.ord (a b : Cp) : Int := if sgn a.g b.g = 0 then sgn b.z a.z else sgn a.g b.g
/-- x counts more than c. -/
def Cp.better (x c : Cp) : Prop := c.g < x.g ∨ (x.g = c.g ∧ x.z < c.z)
theorem Cp.ord_pos (a b : Cp) : 0 < a.ord b ↔ a.better b := by
  unfold Cp.ord Cp.better sgn
  repeat' split
  all_goals omega

theorem cmp_nan (a : Int) (w : World) : Calls Try.prog 146 #[.int .i64 a] w fun e w' => e = .returned (.bool false) ∧ w = w' := by
  go_enter Try.func146, Try.ntmps146
  go_wp2
  go_ret
  exact ⟨ret_bool (by simp), rfl⟩
theorem cmp_compare (a b : Int) (w : World) : Calls Try.prog 128 #[.int .i64 a, .int .i64 b] w fun e w' => e = .returned (.int .i64 (sgn a b)) ∧ w = w' := by
  by_cases h1 : a < b
  · go_enter Try.func128, Try.ntmps128
    go_wp2_with (go_at_call 146; refine (cmp_nan _ _).mono ?_; rintro e w' ⟨rfl, rfl⟩)
    go_ret
    exact ⟨ret_int (by unfold sgn; rw [if_pos h1]), rfl⟩
  · by_cases h2 : b < a
    · go_enter Try.func128, Try.ntmps128
      go_wp2_with (go_at_call 146; refine (cmp_nan _ _).mono ?_; rintro e w' ⟨rfl, rfl⟩)
      go_ret
      exact ⟨ret_int (by unfold sgn; rw [if_neg (by omega), if_pos h2]), rfl⟩
    · go_enter Try.func128, Try.ntmps128
      go_wp2_with (go_at_call 146; refine (cmp_nan _ _).mono ?_; rintro e w' ⟨rfl, rfl⟩)
      go_ret
      exact ⟨ret_int (by unfold sgn; rw [if_neg (by omega), if_neg (by omega)]), rfl⟩
theorem cmp_or (b : Nat) (x y : Int) (w : World) (h0 : w.cell? ⟨b, 0, none⟩ = some (.int .i64 x)) (h1 : w.cell? ⟨b, 1, none⟩ = some (.int .i64 y)) :
    Calls Try.prog 127 #[.slice (some ⟨b, 0, none⟩) 2 2] w fun e w' => e = .returned (.int .i64 (if x = 0 then y else x)) ∧ w = w' := by
  by_cases hx : x = 0
  · subst hx
    by_cases hy : y = 0
    · subst hy
      go_enter Try.func127, Try.ntmps127
      go_wp2
      refine wp_loop_rounds 3 ?_
      rw [rounds_succ]
      go_wp2
      rw [rounds_succ]
      go_wp2
      rw [rounds_succ]
      go_wp2
      go_ret
      exact ⟨by simp, rfl⟩
    · go_enter Try.func127, Try.ntmps127
      go_wp2
      refine wp_loop_rounds 2 ?_
      rw [rounds_succ]
      go_wp2
      rw [rounds_succ]
      go_wp2
      go_ret
      exact ⟨by simp, rfl⟩
  · go_enter Try.func127, Try.ntmps127
    go_wp2
    refine wp_loop_rounds 1 ?_
    rw [rounds_succ]
    go_wp2
    go_ret
    exact ⟨rfl, rfl⟩
theorem cmp_or_v (b : Nat) (x y t : Int) (ht : (if x = 0 then y else x) = t) (w : World) (h0 : w.cell? ⟨b, 0, none⟩ = some (.int .i64 x)) (h1 : w.cell? ⟨b, 1, none⟩ = some (.int .i64 y)) :
    Calls Try.prog 127 #[.slice (some ⟨b, 0, none⟩) 2 2] w fun e w' => e = .returned (.int .i64 t) ∧ w = w' := ht ▸ cmp_or b x y w h0 h1
theorem ckpt_order (a b : Cp) (w : World) : Calls Try.prog 94 #[a.v, b.v] w fun e w' => e = .returned (.int .i64 (a.ord b)) ∧ Below w.heap.size w w' := by
  obtain ⟨V, hV⟩ : ∃ V, (w.alloc a.box).alloc b.box = V := ⟨_, rfl⟩
  have b0 : Below w.heap.size w V := by rw [← hV]; exact (below_box _ _).alloc (by simp) _
  have ka : Blk V w.heap.size 93 a.arr := by rw [← hV]; exact (Blk.newAt rfl).alloc _
  have kb : Blk V (w.heap.size + 1) 93 b.arr := by rw [← hV]; exact Blk.newAt (by simp)
  have a0 : V.cell? ⟨w.heap.size, 0, none⟩ = some (.int .i64 a.z) := by rw [ka.cell]; rfl
  have a1 : V.cell? ⟨w.heap.size, 1, none⟩ = some (.int .i64 a.g) := by rw [ka.cell]; rfl
  have c0 : V.cell? ⟨w.heap.size + 1, 0, none⟩ = some (.int .i64 b.z) := by rw [kb.cell]; rfl
  have c1 : V.cell? ⟨w.heap.size + 1, 1, none⟩ = some (.int .i64 b.g) := by rw [kb.cell]; rfl
  have q1 := ka.lt
  have q2 := kb.lt
  have HB := Lib.hid b0
  have hfrom := @From.cell V
  clear ka kb b0
  go_enter Try.func94, Try.ntmps94
  go_wp2_with fail
  refine region_from_tail 12 (by kernel_rfl) (by kernel_rfl) ?_
  dsimp only [List.take, List.drop]
  repeat (go_big_quiet_step ((go_at_call 128; exact from_call_same (cmp_compare _ _ _))))
  refine wpQuiet_nil ?_
  intro W hW
  have HW := Lib.hid hW
  clear hW hfrom
  obtain ⟨V2, hV2⟩ : ∃ V, W.alloc (.cells #[.int .i64 (sgn a.g b.g), .int .i64 (sgn b.z a.z)] 3) = V := ⟨_, rfl⟩
  have b2 : Below W.heap.size W V2 := by rw [← hV2]; exact below_box _ _
  have kk : Blk V2 W.heap.size 3 #[.int .i64 (sgn a.g b.g), .int .i64 (sgn b.z a.z)] := by rw [← hV2]; exact Blk.newAt rfl
  go_wp2_with fail
  refine (cmp_or_v W.heap.size _ _ (a.ord b) rfl V2 (by rw [kk.cell]; rfl) (by rw [kk.cell]; rfl)).mono ?_
  rintro e w' ⟨rfl, rfl⟩
  go_wp2
  go_ret
  exact ⟨rfl, HB.out.trans ((HW.out.trans (b2.mono HW.out.size)).mono HB.out.size)⟩
end Go.Proofs.Ytcgafnmpfdkfoaa
/- Layer 13: ckpt.Vote. -/
namespace Go.Proofs.Ytcgafnmpfdkfoaa
open Go.RowKit

theorem size_copy : (Try.prog.info? 93).map (·.size) = some 5 := by kernel_rfl
/-- Copies, as they lie. -/
def CpsAt (w : World) (A : Option Addr) (n c : Nat) (cs : List Cp) : Prop :=
  cs.length = n ∧ n ≤ c ∧ c ≤ maxLen ∧ (0 < n → ∃ b, A = some ⟨b, 0, none⟩ ∧ b < w.heap.size ∧ ∀ k x, cs[k]? = some x → w.cell? ⟨b, k * 5, none⟩ = some (.int .i64 x.z) ∧ w.cell? ⟨b, k * 5 + 1, none⟩ = some (.int .i64 x.g) ∧
    w.cell? ⟨b, k * 5 + 2, none⟩ = some (.int .i64 0) ∧ w.cell? ⟨b, k * 5 + 3, none⟩ = some (.int .i64 0) ∧ w.cell? ⟨b, k * 5 + 4, none⟩ = some (.pointer none))
theorem CpsAt.grow {w w1 : World} {A : Option Addr} {n c : Nat} {cs : List Cp} (h : CpsAt w A n c cs) (k : Below w.heap.size w w1) : CpsAt w1 A n c cs := by
  obtain ⟨h1, h2, h3, h4⟩ := h
  refine ⟨h1, h2, h3, fun hp => ?_⟩
  obtain ⟨b, e1, e2, e3⟩ := h4 hp
  have hk : ∀ o, w1.cell? ⟨b, o, none⟩ = w.cell? ⟨b, o, none⟩ := fun o => k.cell (p := ⟨b, o, none⟩) e2
  exact ⟨b, e1, Nat.lt_of_lt_of_le e2 k.size, fun i x hx => by simpa only [hk] using e3 i x hx⟩
def Best (cs : List Cp) (k : Nat) (c : Cp) : Prop := (∃ j, j < k ∧ cs[j]? = some c) ∧ ∀ j x, j < k → cs[j]? = some x → ¬ x.better c
theorem Best.keep {cs : List Cp} {k : Nat} {c x : Cp} (h : Best cs k c) (hx : cs[k]? = some x) (hn : ¬ x.better c) : Best cs (k + 1) c := by
  obtain ⟨⟨j, hj, hc⟩, hall⟩ := h
  refine ⟨⟨j, by omega, hc⟩, fun i y hi hy => ?_⟩
  by_cases e : i = k
  · subst e; rw [hx] at hy; cases hy; exact hn
  · exact hall i y (by omega) hy
theorem Best.take {cs : List Cp} {k : Nat} {c x : Cp} (h : Best cs k c) (hx : cs[k]? = some x) (hn : x.better c) : Best cs (k + 1) x := by
  obtain ⟨_, hall⟩ := h
  refine ⟨⟨k, by omega, hx⟩, fun i y hi hy => ?_⟩
  by_cases e : i = k
  · subst e; rw [hx] at hy; cases hy; unfold Cp.better; omega
  · have := hall i y (by omega) hy
    unfold Cp.better at *
    omega
/-- A call through a function value, in a region of quiet operations. -/
theorem quiet_call_fv {P : Program} {op : Oper} {a : Act} {C : World → Prop} {K : Act → Prop} (x : Operand) (xs : Array Operand) (ats : Array TypeId) (f : FuncId) (ho : op.op = .call { callee := .value x, args := xs, argTypes := ats })
    (hx : a.eval x = .func (.func f) #[] #[]) (hf : ∀ args w, (callFunc f args).run P w = .ok (.enter f args) w) (args : Array Value) (ha : xs.map a.eval = args) (v : Value) (hc : ∀ W, C W → Calls P f args W fun e w'' => e = .returned v ∧ C w'') (hk : K (a.put op.dst v)) : op.quiet P a C K :=
  ⟨v, fun W hW => by
    unfold Oper.quietAt execOp
    simp only [ho, resolve, hx, Deferred.ofValue, Sem.run_bind, Sem.run_pure, Result.andThen_ok, invoke, Array.append_empty, Array.empty_append, hf, ha]
    exact ⟨rfl, hc W hW⟩, hk⟩
set_option maxRecDepth 100000 in
set_option maxHeartbeats 1000000 in
theorem max_func (w : World) (b n c : Nat) (cs : List Cp) (h : CpsAt w (some ⟨b, 0, none⟩) n c cs) (h1 : 1 ≤ n) (h60 : n ≤ 1000) :
    Calls Try.prog 93 #[.slice (some ⟨b, 0, none⟩) n c, .func (.func 94) #[] #[]] w fun e w' => (∃ m, Best cs n m ∧ e = .returned m.v) ∧ Below w.heap.size w w' := by
  obtain ⟨hl, hnc, hcm, hc⟩ := h
  obtain ⟨b', eb, hbl, hcells⟩ := hc (by omega)
  obtain rfl : b = b' := by simpa using eb
  have HC := Lib.hid hcells
  obtain ⟨x0, hx0⟩ : ∃ x, cs[0]? = some x := ⟨_, List.getElem?_eq_getElem (by omega)⟩
  obtain ⟨d0, d1, d2, d3, d4⟩ := hcells 0 x0 hx0
  have hn1 : ¬ (n < 1) := by omega
  have hc63 : c ≤ 9223372036854775807 := by unfold maxLen at hcm; omega
  have HX0 := Lib.hid hx0
  simp only [Nat.zero_mul, Nat.zero_add] at d0 d1 d2 d3 d4
  clear hcells hc eb hx0 hcm
  go_enter Try.func93, Try.ntmps93
  obtain ⟨V0, hV0⟩ : ∃ V, (w.alloc (.cells #[.int .i64 0, .int .i64 0, .int .i64 0, .int .i64 0, .pointer none] 93)).alloc x0.box = V := ⟨_, rfl⟩
  have b0 : Below w.heap.size w V0 := by rw [← hV0]; exact (below_box _ _).alloc (by simp) _
  have kr : Blk V0 w.heap.size 93 (Cp.arr ⟨0, 0⟩) := by rw [← hV0]; exact (Blk.newAt rfl).alloc _
  have km : Blk V0 (w.heap.size + 1) 93 x0.arr := by rw [← hV0]; exact Blk.newAt (by simp)
  have hs0 : V0.heap.size = w.heap.size + 2 := by rw [← hV0]; simp
  have HB0 := Lib.hid b0
  have KR := Lib.hid kr
  have KM := Lib.hid km
  have HS0 := Lib.hid hs0
  have HV0 := Lib.hid hV0
  clear b0 kr km hs0 hV0
  go_wp2
  rw [HV0.out]
  clear d0 d1 d2 d3 d4
  go_loopw [6] (fun i wr => ∃ (k : Nat) (m : Cp), 1 ≤ k ∧ k ≤ n ∧ i = .int .i64 k ∧ Best cs k m ∧ Blk wr (w.heap.size + 1) 93 m.arr ∧ Blk wr w.heap.size 93 (Cp.arr ⟨0, 0⟩) ∧ Below w.heap.size w wr) (fun i _ => n - (intOf i).toNat)
  case atStart => exact ⟨1, x0, Nat.le_refl _, h1, rfl, ⟨⟨0, by omega, HX0.out⟩, fun j x hj hx => by
    obtain rfl : j = 0 := by omega
    rw [HX0.out] at hx; cases hx; unfold Cp.better; omega⟩, KM.out, KR.out, HB0.out⟩
  case round =>
    obtain ⟨k, m, hk1, hkn, rfl, hbest, km, kr, hB⟩ := hrel
    have HB := Lib.hid hB
    have KM := Lib.hid km
    have KR := Lib.hid kr
    have HBest := Lib.hid hbest
    by_cases hlt : k < n
    · obtain ⟨x, hx⟩ : ∃ x, cs[k]? = some x := ⟨_, List.getElem?_eq_getElem (by omega)⟩
      have hbr : b < wr.heap.size := Nat.lt_of_lt_of_le hbl hB.size
      have hcell : ∀ o, wr.cell? ⟨b, o, none⟩ = w.cell? ⟨b, o, none⟩ := fun o => hB.cell (p := ⟨b, o, none⟩) hbl
      obtain ⟨e0, e1, e2, e3, e4⟩ := HC.out k x hx
      rw [← hcell] at e0 e1 e2 e3 e4
      have m0 : wr.cell? ⟨w.heap.size + 1, 0, none⟩ = some (.int .i64 m.z) := by rw [km.cell]; rfl
      have m1 : wr.cell? ⟨w.heap.size + 1, 1, none⟩ = some (.int .i64 m.g) := by rw [km.cell]; rfl
      have m2 : wr.cell? ⟨w.heap.size + 1, 2, none⟩ = some (.int .i64 0) := by rw [km.cell]; rfl
      have m3 : wr.cell? ⟨w.heap.size + 1, 3, none⟩ = some (.int .i64 0) := by rw [km.cell]; rfl
      have m4 : wr.cell? ⟨w.heap.size + 1, 4, none⟩ = some (.pointer none) := by rw [km.cell]; rfl
      have ml := km.lt
      have hk0 : (0 : Int) ≤ (k : Int) := by omega
      have hkl : (k : Int) < (n : Int) := by omega
      have HX := Lib.hid hx
      have hfrom := @From.cell wr
      clear hB km kr hbest hcell hx
      go_wp2_with fail
      refine region_from (by kernel_rfl) (by kernel_rfl) ?_
      repeat (go_big_quiet_step (fail))
      go_big_quiet_want
      refine quiet_call_fv (.tmp 20) _ _ 94 rfl rfl (enters_of Try.func94 (by kernel_rfl) rfl) #[x.v, m.v] (by simp [Act.eval]) (.int .i64 (x.ord m)) (by rintro _ ⟨y, rfl⟩; exact from_call (ckpt_order x m _)) ?_
      go_simp
      go_big_quiet_on
      repeat (go_big_quiet_step (fail))
      refine wpQuiet_nil ?_
      intro W hW
      have KW := Lib.hid ((Keeps.of_below (S := []) hW).blk KM.out.lt (by simp) KM.out)
      have RW := Lib.hid ((Keeps.of_below (S := []) hW).blk KR.out.lt (by simp) KR.out)
      have BW := Lib.hid (HB.out.trans (hW.mono HB.out.size))
      have EW : Hid (W.cell? ⟨b, k * 5, none⟩ = some (.int .i64 x.z) ∧ W.cell? ⟨b, k * 5 + 1, none⟩ = some (.int .i64 x.g) ∧ W.cell? ⟨b, k * 5 + 2, none⟩ = some (.int .i64 0) ∧ W.cell? ⟨b, k * 5 + 3, none⟩ = some (.int .i64 0) ∧ W.cell? ⟨b, k * 5 + 4, none⟩ = some (.pointer none)) :=
        Lib.hid ⟨(hW.cell (p := ⟨b, k * 5, none⟩) hbr).trans e0, (hW.cell (p := ⟨b, k * 5 + 1, none⟩) hbr).trans e1, (hW.cell (p := ⟨b, k * 5 + 2, none⟩) hbr).trans e2, (hW.cell (p := ⟨b, k * 5 + 3, none⟩) hbr).trans e3, (hW.cell (p := ⟨b, k * 5 + 4, none⟩) hbr).trans e4⟩
      clear hW hfrom e0 e1 e2 e3 e4 m0 m1 m2 m3 m4 ml
      by_cases hbt : 0 < x.ord m
      · obtain ⟨e0, e1, e2, e3, e4⟩ := EW.out
        have f0 := KW.out.frozen 0
        have f1 := KW.out.frozen 1
        have f2 := KW.out.frozen 2
        have f3 := KW.out.frozen 3
        have f4 := KW.out.frozen 4
        have m0 : W.cell? ⟨w.heap.size + 1, 0, none⟩ = some (.int .i64 m.z) := by rw [KW.out.cell]; rfl
        have m1 : W.cell? ⟨w.heap.size + 1, 1, none⟩ = some (.int .i64 m.g) := by rw [KW.out.cell]; rfl
        have m2 : W.cell? ⟨w.heap.size + 1, 2, none⟩ = some (.int .i64 0) := by rw [KW.out.cell]; rfl
        have m3 : W.cell? ⟨w.heap.size + 1, 3, none⟩ = some (.int .i64 0) := by rw [KW.out.cell]; rfl
        have m4 : W.cell? ⟨w.heap.size + 1, 4, none⟩ = some (.pointer none) := by rw [KW.out.cell]; rfl
        obtain ⟨W5, hW5⟩ : ∃ V : World, ((((W.setCell ⟨w.heap.size + 1, 0, none⟩ (.int .i64 x.z)).setCell ⟨w.heap.size + 1, 1, none⟩ (.int .i64 x.g)).setCell ⟨w.heap.size + 1, 2, none⟩ (.int .i64 0)).setCell ⟨w.heap.size + 1, 3, none⟩ (.int .i64 0)).setCell ⟨w.heap.size + 1, 4, none⟩ (.pointer none) = V := ⟨_, rfl⟩
        have K5 : Blk W5 (w.heap.size + 1) 93 x.arr := by rw [← hW5]; exact ((((KW.out.set_ 0 _).set_ 1 _).set_ 2 _).set_ 3 _).set_ 4 _
        have B5 : Keeps w.heap.size [] w W5 := by rw [← hW5]; exact (((((Keeps.of_below BW.out).setCell _ _ (.inr (by simp))).setCell _ _ (.inr (by simp))).setCell _ _ (.inr (by simp))).setCell _ _ (.inr (by simp))).setCell _ _ (.inr (by simp))
        have R5 : Blk W5 w.heap.size 93 (Cp.arr ⟨0, 0⟩) := by
          have hk : Keeps (w.heap.size + 1) [] W W5 := by rw [← hW5]; exact (((((Keeps.refl _ _ _).setCell _ _ (.inr (by simp))).setCell _ _ (.inr (by simp))).setCell _ _ (.inr (by simp))).setCell _ _ (.inr (by simp))).setCell _ _ (.inr (by simp))
          exact hk.blk (by omega) (by simp) RW.out
        have HK5 := Lib.hid K5
        have HB5 := Lib.hid (Keeps.below B5 (by simp))
        have HR5 := Lib.hid R5
        have HW5 := Lib.hid hW5
        clear K5 B5 R5 hW5
        go_wp2
        go_roundw
        case rel => exact ⟨k + 1, x, by omega, by omega, by simp, HBest.out.take HX.out ((Cp.ord_pos x m).1 hbt), HW5.out ▸ HK5.out, HW5.out ▸ HR5.out, HW5.out ▸ HB5.out⟩
        case measure => simp [intOf]; omega
      · go_wp2
        go_roundw
        case rel => exact ⟨k + 1, m, by omega, by omega, by simp, HBest.out.keep HX.out (fun hb => hbt ((Cp.ord_pos x m).2 hb)), KW.out, RW.out, BW.out⟩
        case measure => simp [intOf]; omega
    · obtain rfl : k = n := by omega
      have m0 : wr.cell? ⟨w.heap.size + 1, 0, none⟩ = some (.int .i64 m.z) := by rw [km.cell]; rfl
      have m1 : wr.cell? ⟨w.heap.size + 1, 1, none⟩ = some (.int .i64 m.g) := by rw [km.cell]; rfl
      have m2 : wr.cell? ⟨w.heap.size + 1, 2, none⟩ = some (.int .i64 0) := by rw [km.cell]; rfl
      have m3 : wr.cell? ⟨w.heap.size + 1, 3, none⟩ = some (.int .i64 0) := by rw [km.cell]; rfl
      have m4 : wr.cell? ⟨w.heap.size + 1, 4, none⟩ = some (.pointer none) := by rw [km.cell]; rfl
      have ml := km.lt
      clear hB km kr hbest
      go_wp2_with (refine wpList_store_blk rfl 93 (.tmp 4) (.tmp 32) rfl w.heap.size 0 m.arr rfl rfl KR.out (by simp) size_copy (by simp [Value.oneCell']) ?_; intro W8 hG8 hK8 hs8)
      have hG := hG8.out
      rw [over_all (by simp)] at hG
      refine bodyPost_ret (v := m.v) (results_cell_row Try.results93 _ _ w.heap.size 93 m.arr (0, 0) _ (by simp [Act.put]) hG Try.underlying93 rfl size_copy) rfl ?_
      exact ⟨⟨m, HBest.out, rfl⟩, HB.out.trans (Keeps.below (hK8.out.mono HB.out.size (fun _ h => h)) (by simp))⟩
/-- The copy that counts. -/
theorem ckpt_vote (w : World) (A : Option Addr) (n c : Nat) (cs : List Cp) (h : CpsAt w A n c cs) (h1 : 1 ≤ n) (h60 : n ≤ 1000) :
    Calls Try.prog 53 #[.slice A n c] w fun e w' => (∃ m, Best cs n m ∧ e = .returned (.tuple #[m.v, .int .i64 0])) ∧ Below w.heap.size w w' := by
  obtain ⟨b, rfl, _, _⟩ := h.2.2.2 (by omega)
  have HC := Lib.hid (h.grow (below_box w (.cells #[.int .i64 0, .int .i64 0, .int .i64 0, .int .i64 0, .pointer none] 93)))
  have hc63 : c ≤ 9223372036854775807 := by have := h.2.2.1; unfold maxLen at this; omega
  have hnc := h.2.1
  obtain ⟨V, hV⟩ : ∃ V, w.alloc (.cells #[.int .i64 0, .int .i64 0, .int .i64 0, .int .i64 0, .pointer none] 93) = V := ⟨_, rfl⟩
  have b0 : Below w.heap.size w V := by rw [← hV]; exact below_box _ _
  have k0 : Blk V w.heap.size 93 (Cp.arr ⟨0, 0⟩) := by rw [← hV]; exact Blk.newAt rfl
  rw [hV] at HC
  have HB := Lib.hid b0
  have K0 := Lib.hid k0
  have hn0 : ¬ (n = 0) := by omega
  clear h b0 k0
  go_enter Try.func53, Try.ntmps53
  go_wp2_with fail
  clear hV
  refine (max_func V b n c cs HC.out h1 h60).mono ?_
  rintro r w1 ⟨⟨m, hm, rfl⟩, hb1⟩
  have K1 := Lib.hid ((Keeps.of_below (S := []) hb1).blk K0.out.lt (by simp) K0.out)
  have HB1 := Lib.hid (HB.out.trans (hb1.mono HB.out.size))
  have HM := Lib.hid hm
  clear hb1 hm
  go_wp2_with (refine wpList_store_blk rfl 93 (.tmp 2) (.tmp 9) rfl w.heap.size 0 m.arr rfl rfl K1.out (by simp) size_copy (by simp [Value.oneCell']) ?_; intro W8 hG8 hK8 hs8)
  have hG := hG8.out
  rw [over_all (by simp)] at hG
  have r1 : (loadVar 93 ⟨w.heap.size, 0, none⟩).run Try.prog W8 = .ok m.v W8 := run_loadVar_row _ _ _ _ _ _ _ hG Try.underlying93 rfl size_copy
  refine bodyPost_ret (v := .tuple #[m.v, .int .i64 0]) ?_ rfl ⟨⟨m, HM.out, rfl⟩, ?_⟩
  · simp [results, Try.results53, asAddr, r1]
  · exact HB1.out.trans (Keeps.below (hK8.out.mono HB1.out.size (fun _ h => h)) (by simp))
theorem ckpt_vote_none (w : World) (A : Option Addr) (c : Nat) :
    Calls Try.prog 53 #[.slice A 0 c] w fun e w' => e = .returned (.tuple #[(Cp.v ⟨0, 0⟩), .int .i64 15]) ∧ Below w.heap.size w w' := by
  obtain ⟨V, hV⟩ : ∃ V, w.alloc (.cells #[.int .i64 0, .int .i64 0, .int .i64 0, .int .i64 0, .pointer none] 93) = V := ⟨_, rfl⟩
  have b0 : Below w.heap.size w V := by rw [← hV]; exact below_box _ _
  have k0 : Blk V w.heap.size 93 (Cp.arr ⟨0, 0⟩) := by rw [← hV]; exact Blk.newAt rfl
  have HB := Lib.hid b0
  have K0 := Lib.hid k0
  clear b0 k0
  go_enter Try.func53, Try.ntmps53
  go_wp2_with (refine wpList_store_blk rfl 93 (.tmp 2) (.tmp 7) rfl w.heap.size 0 (Cp.arr ⟨0, 0⟩) rfl rfl K0.out (Nat.le_refl 5) size_copy (by simp [Value.oneCell']) ?_; intro W8 hG8 hK8 hs8)
  have hG := hG8.out
  rw [over_all rfl] at hG
  have r1 : (loadVar 93 ⟨w.heap.size, 0, none⟩).run Try.prog W8 = .ok (Cp.v ⟨0, 0⟩) W8 := run_loadVar_row _ _ _ _ _ _ _ hG Try.underlying93 rfl size_copy
  refine bodyPost_ret (v := .tuple #[Cp.v ⟨0, 0⟩, .int .i64 15]) ?_ rfl ⟨rfl, ?_⟩
  · simp [results, Try.results53, asAddr, r1]
  · exact HB.out.trans (Keeps.below (hK8.out.mono HB.out.size (fun _ h => h)) (by simp))
end Go.Proofs.Ytcgafnmpfdkfoaa
/- slices.Sort at a list of whole numbers: the library's contract, laid at this program in plain words. -/
namespace Go.Proofs.Ytcgafnmpfdkfoaa
open Go.Shelf Go.Sort Go.RowKit
def sortRen : Go.Shelf.Ren := ⟨fun | 189 => 95 | 125 => 130 | 257 => 129 | 128 => 156 | 129 => 157 | 294 => 147 | 295 => 148 | 296 => 149 | 297 => 150 | 298 => 151 | 299 => 152 | 216 => 153 | 300 => 154 | 301 => 155 | 328 => 161 | 329 => 162 | 330 => 163 | 331 => 164 | 332 => 165 | 215 => 146 | 343 => 168 | n => n, fun | 28 => 73 | 3 => 3 | 46 => 167 | 0 => 0 | 51 => 81 | 53 => 245 | 4 => 4 | 183 => 237 | 182 => 236 | 131 => 241 | 5 => 5 | 9 => 9 | 218 => 249 | 222 => 253 | 228 => 256 | 229 => 257 | n => n, fun | n => n⟩
theorem sortLays : Go.Proofs.Lays.n189 Try.prog sortRen := {
  mixed := by kernel_rfl
  f125 := Try.func130.trans (congrArg some (by kernel_rfl))
  f128 := Try.func156.trans (congrArg some (by kernel_rfl))
  f129 := Try.func157.trans (congrArg some (by kernel_rfl))
  f189 := Try.func95.trans (congrArg some (by kernel_rfl))
  f215 := Try.func146.trans (congrArg some (by kernel_rfl))
  f216 := Try.func153.trans (congrArg some (by kernel_rfl))
  f257 := Try.func129.trans (congrArg some (by kernel_rfl))
  f294 := Try.func147.trans (congrArg some (by kernel_rfl))
  f295 := Try.func148.trans (congrArg some (by kernel_rfl))
  f296 := Try.func149.trans (congrArg some (by kernel_rfl))
  f297 := Try.func150.trans (congrArg some (by kernel_rfl))
  f298 := Try.func151.trans (congrArg some (by kernel_rfl))
  f299 := Try.func152.trans (congrArg some (by kernel_rfl))
  f300 := Try.func154.trans (congrArg some (by kernel_rfl))
  f301 := Try.func155.trans (congrArg some (by kernel_rfl))
  f328 := Try.func161.trans (congrArg some (by kernel_rfl))
  f329 := Try.func162.trans (congrArg some (by kernel_rfl))
  f330 := Try.func163.trans (congrArg some (by kernel_rfl))
  f331 := Try.func164.trans (congrArg some (by kernel_rfl))
  f332 := Try.func165.trans (congrArg some (by kernel_rfl))
  f343 := Try.func168.trans (congrArg some (by kernel_rfl))
  t0 := Try.underlying0
  a0 := Try.isAgg0
  z0 := Try.sizeOf0
  v0 := Try.zeroValue0
  t3 := Try.underlying3
  a3 := Try.isAgg3
  z3 := Try.sizeOf3
  v3 := Try.zeroValue3
  t4 := Try.underlying4
  a4 := Try.isAgg4
  z4 := Try.sizeOf4
  v4 := Try.zeroValue4
  t5 := Try.underlying5
  a5 := Try.isAgg5
  z5 := Try.sizeOf5
  v5 := Try.zeroValue5
  t9 := Try.underlying9
  a9 := Try.isAgg9
  z9 := Try.sizeOf9
  v9 := Try.zeroValue9
  t28 := Try.underlying73
  a28 := Try.isAgg73
  z28 := Try.sizeOf73
  v28 := Try.zeroValue73
  t46 := Try.underlying167
  a46 := Try.isAgg167
  z46 := Try.sizeOf167
  v46 := Try.zeroValue167
  t51 := Try.underlying81
  a51 := Try.isAgg81
  z51 := Try.sizeOf81
  v51 := Try.zeroValue81
  t53 := Try.underlying245
  a53 := Try.isAgg245
  z53 := Try.sizeOf245
  v53 := Try.zeroValue245
  t131 := Try.underlying241
  a131 := Try.isAgg241
  z131 := Try.sizeOf241
  v131 := Try.zeroValue241
  t182 := Try.underlying236
  a182 := Try.isAgg236
  z182 := Try.sizeOf236
  v182 := Try.zeroValue236
  t183 := Try.underlying237
  a183 := Try.isAgg237
  z183 := Try.sizeOf237
  v183 := Try.zeroValue237
  t218 := Try.underlying249
  a218 := Try.isAgg249
  z218 := Try.sizeOf249
  v218 := Try.zeroValue249
  t222 := Try.underlying253
  a222 := Try.isAgg253
  z222 := Try.sizeOf253
  v222 := Try.zeroValue253
  t228 := Try.underlying256
  a228 := Try.isAgg256
  z228 := Try.sizeOf256
  v228 := Try.zeroValue256
  t229 := Try.underlying257
  a229 := Try.isAgg257
  z229 := Try.sizeOf257
  v229 := Try.zeroValue257 }

theorem holds_of_ints {w : World} {g : Nat} {cur : Array Value} {e : TypeId} {zs : List Int} (hb : w.heap[g]? = some (.cells cur e (0, 0))) (ht : cur.toList.take zs.length = nums zs) : Holds (Value.int .i64) w g 0 zs.toArray := by
  intro j hj
  have hj' : j < zs.length := by simpa using hj
  refine ⟨?_, by simp [World.frozen?, hb]⟩
  have h1 : (cur.toList.take zs.length)[j]? = (nums zs)[j]? := by rw [ht]
  rw [List.getElem?_take_of_lt hj'] at h1
  simp only [World.cell?, hb, Nat.zero_add]
  simpa [nums, hj'] using h1
theorem heap_sorted_i {w : World} {g n : Nat} {os : Array Obj} {cur : Array Value} {e : TypeId} {fr : Nat × Nat} (d : Array Int) (hb : w.heap[g]? = some (.cells cur e fr)) :
    (grow (putRow (Value.int .i64) (Sort.ahead w n) g 0 d) os).heap[g]? = some (.cells (putCells (Value.int .i64) 0 d cur) e fr) := by
  have hg : g < w.heap.size := (Array.getElem?_eq_some_iff.1 hb).1
  rw [heap_grow_old _ _ (by simpa using hg)]
  simp [putRow, mapBlock, Sort.ahead, Array.getElem?_modify, hb, onCells]
theorem grownBy_sorted_i {w : World} {g n : Nat} {os : Array Obj} (d : Array Int) : w.grownBy (grow (putRow (Value.int .i64) (Sort.ahead w n) g 0 d) os) (some g) := by
  refine ⟨rfl, rfl, rfl, by simp, fun k hk hne => ?_⟩
  rw [heap_grow_old _ _ (by simpa using hk)]
  have : g ≠ k := fun e => hne (by rw [e])
  simp [putRow, mapBlock, Sort.ahead, Array.getElem?_modify, this]
theorem take_putCells_i (cur : Array Value) (ts : List Int) (h : ts.length ≤ cur.size) : (putCells (Value.int .i64) 0 ts.toArray cur).toList.take ts.length = nums ts := by
  apply List.ext_getElem?
  intro j
  by_cases hj : j < ts.length
  · rw [List.getElem?_take_of_lt hj, Array.getElem?_toList]
    simp [putCells, nums, hj, show j < cur.size by omega]
  · rw [List.getElem?_take_eq_none (by omega), List.getElem?_eq_none (by simp [nums]; omega)]
def sorted (zs : List Int) : List Int := zs.mergeSort fun x y => decide (x ≤ y)
/-- slices.Sort of a list of the call's own. -/
theorem sort_own (w : World) (base : Nat) (v : Value) (n : Nat) (zs : List Int) (hown : w.ownsRow base 3 1 v n (nums zs)) (hn : zs.length = n) (hs : n < 4611686018427387904) :
    Calls Try.prog 95 #[v] w fun e w' => e = .returned (.tuple #[]) ∧ w'.ownsRow base 3 1 v n (nums (sorted zs)) ∧ w.grownBy w' v.ownBlock := by
  rcases hown.2 with ⟨rfl, rfl⟩ | ⟨g, cap, cur, rfl, hbase, hb, h1, h2, h3, h4⟩
  · refine (Any.slices_Sort_int_none sortLays none 0 w).mono ?_
    rintro e w' ⟨rfl, rfl⟩
    have hz : zs = [] := List.eq_nil_of_length_eq_zero hn
    subst hz
    refine ⟨rfl, by simpa [sorted] using hown, ⟨rfl, rfl, rfl, Nat.le_refl _, fun _ _ _ => rfl⟩⟩
  · subst hn
    have hg : g < w.heap.size := (Array.getElem?_eq_some_iff.1 hb).1
    refine (Any.slices_Sort_int sortLays g 0 cap zs w (holds_of_ints hb (by simpa using h4)) hg hs).mono ?_
    rintro e w' ⟨rfl, k, os, rfl⟩
    refine ⟨rfl, ⟨by simp [nums, sorted], .inr ⟨g, cap, _, rfl, hbase, heap_sorted_i _ hb, h1, h2, by simp [putCells, h3], ?_⟩⟩, ?_⟩
    · have hl : (sorted zs).length = zs.length := by simp [sorted]
      rw [Nat.mul_one, ← hl]
      exact take_putCells_i cur (sorted zs) (by rw [hl]; omega)
    · exact grownBy_sorted_i _
end Go.Proofs.Ytcgafnmpfdkfoaa
