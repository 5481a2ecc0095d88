/- Law SnapMixed: the walk. -/
import Derived.Test.YtcgafnmpfdkfoaaMixed0
namespace Go.Proofs.Ytcgafnmpfdkfoaa
open Go.RowKit
def sA3 : Sn := ⟨3, 2, 281474976710655⟩
def sB4 : Sn := ⟨4, 2, 281474976710655⟩
/-- There is nothing to make. -/
theorem made12_bad (w : World) (g : G) (A : Option Addr) (n c : Nat) (gen ep nx : Int) (h : g.right = false ∨ 60 < n) :
    Calls Try.prog 38 #[g.v, .slice A n c, .int .i64 gen, .int .i64 ep, .int .i64 nx] w fun r w' => r = .returned (.tuple #[sn0, ref0, .bool false]) ∧ Below w.heap.size w w' := by
  cases hr : g.right with
  | false => exact made12_no w g A n c _ _ _ hr
  | true => exact made12_long w g A n c _ _ _ hr (h.resolve_left (by rw [hr]; simp))
/-- What stands of one of the two. -/
structure MxAt (w : World) (g : G) (l : List E) (lv : List Int) (s : Sn) (p bl bv st : Nat) (W : World) : Prop where
  m : MapAt W p bl bv g l lv
  y : Blk W st 53 (s.arr p)
  x : Blk W w.heap.size 23 g.arr
  u : Below w.heap.size w W
theorem MxAt.grow {w : World} {g : G} {l : List E} {lv : List Int} {s : Sn} {p bl bv st : Nat} {W W' : World} (h : MxAt w g l lv s p bl bv st W) (k : Below W.heap.size W W') : MxAt w g l lv s p bl bv st W' :=
  ⟨h.m.grow k, (Keeps.of_below (S := []) k).blk h.y.lt (by simp) h.y, (Keeps.of_below (S := []) k).blk h.x.lt (by simp) h.x, h.u.trans (k.mono h.u.size)⟩
/-- The copy of a row of frames that an append has made. -/
theorem appended_frs {w w1 : World} {fs : List Fr} {v' : Value} (h1 : 1 ≤ fs.length) (hown : w1.ownsRow w.heap.size 64 49 v' (0 + fs.length) ([] ++ flatF fs)) (hgrow : (w.alloc (.cells #[] 64)).grownBy w1 (Value.slice (some ⟨w.heap.size, 0, none⟩) 0 0).ownBlock) :
    Below w.heap.size w w1 ∧ ∃ g' c', v' = .slice (some ⟨g', 0, none⟩) fs.length c' ∧ w1.ownsRow w.heap.size 64 49 v' fs.length (flatF fs) := by
  refine ⟨(below_box w _).grown hgrow (by simp) (fun k e => by cases e; exact Nat.le_refl _), ?_⟩
  rw [Nat.zero_add, List.nil_append] at hown
  obtain ⟨m, hm⟩ : ∃ m, fs.length = m + 1 := ⟨fs.length - 1, by omega⟩
  have h := hown
  rw [hm] at h
  obtain ⟨g', c', rfl⟩ := own_succ h
  exact ⟨g', c', by rw [hm], hown⟩

set_option maxRecDepth 100000 in
set_option maxHeartbeats 2000000 in
theorem mixed_walk (w : World) (g : G) (A : Option Addr) (n c : Nat) (ops : List Op11) (h : OpsAt w A n c ops) (A' : Option Addr) (n' c' : Nat) (ops' : List Op11) (h' : OpsAt w A' n' c' ops') (at_ : Int) :
    Calls Try.prog 9 #[g.v, .slice A n c, .slice A' n' c', .int .i64 at_] w fun r w' => r = .returned (.bool true) ∧ Below w.heap.size w w' := by
  obtain ⟨W0, hW0⟩ : ∃ W0, w.alloc g.box = W0 := ⟨_, rfl⟩
  have k0 : Blk W0 w.heap.size 23 g.arr := by rw [← hW0]; exact Blk.newAt rfl
  have U0 : Below w.heap.size w W0 := by rw [← hW0]; exact below_box _ _
  have HU := Lib.hid U0
  have K0 := Lib.hid k0
  have HO := Lib.hid h
  have HO' := Lib.hid h'
  clear h h' U0 k0
  go_enter Try.func9, Try.ntmps9
  go_wp2_with fail
  clear hW0
  refine (anchor12 W0).mono ?_
  rintro r w1 ⟨rfl, hb1⟩
  have K1 := Lib.hid ((Keeps.of_below (S := []) hb1).blk K0.out.lt (by simp) K0.out)
  have U1 : Hid (Below w.heap.size w w1) := Lib.hid (HU.out.trans (hb1.mono HU.out.size))
  obtain ⟨⟨x0, x1⟩, ⟨x2, x3⟩, x4, x5⟩ := K1.out.gcells
  clear hb1
  go_wp2_with fail
  by_cases hbad : g.right = false ∨ 60 < n
  · refine (made12_bad w1 g A n c _ _ _ hbad).mono ?_
    rintro r w2 ⟨rfl, hb2⟩
    have KK2 := Lib.hid ((Keeps.of_below (S := []) hb2).blk K1.out.lt (by simp) K1.out)
    obtain ⟨V2, hV2⟩ : ∃ V2, (w2.alloc (.cells #[.int .i64 0, .int .i64 0, .int .i64 0, .pointer none] 53)).alloc (.cells #[.int .i64 0, .int .i64 0, .int .i64 0, .int .i64 0, .int .i64 0, .int .i64 0, .int .i64 0, .int .i64 0, .int .i64 0, .slice none 0 0] 55) = V2 := ⟨_, rfl⟩
    have b3 : Below w2.heap.size w2 V2 := by rw [← hV2]; exact (below_box _ _).alloc (by simp) _
    have U3 : Hid (Below w.heap.size w V2) := Lib.hid (U1.out.trans ((hb2.trans (b3.mono hb2.size)).mono U1.out.size))
    have K3 := Lib.hid ((Keeps.of_below (S := []) (hb2.trans (b3.mono hb2.size))).blk K1.out.lt (by simp) K1.out)
    have HV2 := Lib.hid hV2
    clear hb2 x0 x1 x2 x3 x4 x5 b3 hV2
    obtain ⟨⟨x0, x1⟩, ⟨x2, x3⟩, x4, x5⟩ := K3.out.gcells
    have K2 := KK2.out.gcells
    obtain ⟨⟨z0, z1⟩, ⟨z2, z3⟩, z4, z5⟩ := K2
    have zl := KK2.out.lt
    go_wp2_with fail
    rw [HV2.out]
    by_cases hbad' : g.right = false ∨ 60 < n'
    · refine (made12_bad V2 g A' n' c' _ _ _ hbad').mono ?_
      rintro r w4 ⟨rfl, hb4⟩
      have U4 : Hid (Below w.heap.size w w4) := Lib.hid (U3.out.trans (hb4.mono U3.out.size))
      clear hb4 x0 x1 x2 x3 x4 x5 hbad hbad'
      go_wp2
      go_ret
      exact ⟨rfl, (U4.out.alloc U4.out.size _).alloc (by have := U4.out.size; simp; omega) _⟩
    · have hr : g.right = true := by cases hr : g.right with | true => rfl | false => exact absurd (.inl hr) hbad'
      refine (made12_yes V2 g A' n' c' ops' (HO'.out.grow U3.out) sB4 hr (by omega)).mono ?_
      rintro r w4 ⟨p, bl, bv, lv, rb, rc, rfl, _, _, _, _, hb4⟩
      have U4 : Hid (Below w.heap.size w w4) := Lib.hid (U3.out.trans (hb4.mono U3.out.size))
      generalize playL g ops' = l
      clear hb4 x0 x1 x2 x3 x4 x5 hbad hbad' hr
      go_wp2
      go_ret
      exact ⟨rfl, (U4.out.alloc U4.out.size _).alloc (by have := U4.out.size; simp; omega) _⟩
  · have hr : g.right = true := by cases hr : g.right with | true => rfl | false => exact absurd (.inl hr) hbad
    refine (made12_yes w1 g A n c ops (HO.out.grow U1.out) sA3 hr (by omega)).mono ?_
    rintro r w2 ⟨p, bl, bv, lv, rb, rc, rfl, hM, hOk, _, _, hb2⟩
    obtain ⟨l, hl⟩ : ∃ l, playL g ops = l := ⟨_, rfl⟩
    rw [hl] at hM hOk ⊢
    obtain ⟨V2, hV2⟩ : ∃ V2, (w2.alloc (sA3.box p)).alloc (.cells (refArr sA3 g (.slice (some ⟨rb, 0, none⟩) l.length rc)) 55) = V2 := ⟨_, rfl⟩
    have b3 : Below w2.heap.size w2 V2 := by rw [← hV2]; exact (below_box _ _).alloc (by simp) _
    have A3 : Hid (MxAt w g l lv sA3 p bl bv w2.heap.size V2) := Lib.hid ⟨hM.grow b3, by rw [← hV2]; exact (Blk.newAt rfl).alloc _, (Keeps.of_below (S := []) (hb2.trans (b3.mono hb2.size))).blk K1.out.lt (by simp) K1.out, U1.out.trans ((hb2.trans (b3.mono hb2.size)).mono U1.out.size)⟩
    have OA := Lib.hid hOk
    have HR := Lib.hid hr
    clear hM hOk hb2 b3 hl x0 x1 x2 x3 x4 x5 hbad
    obtain ⟨⟨x0, x1⟩, ⟨x2, x3⟩, x4, x5⟩ := A3.out.x.gcells
    go_wp2_with fail
    clear hV2
    by_cases hbad' : 60 < n'
    · refine (made12_bad V2 g A' n' c' _ _ _ (.inr hbad')).mono ?_
      rintro r w4 ⟨rfl, hb4⟩
      have U4 : Hid (Below w.heap.size w w4) := Lib.hid (A3.out.u.trans (hb4.mono A3.out.u.size))
      clear hb4 x0 x1 x2 x3 x4 x5 hbad' hr
      go_wp2
      go_ret
      exact ⟨rfl, (U4.out.alloc U4.out.size _).alloc (by have := U4.out.size; simp; omega) _⟩
    · refine (made12_yes V2 g A' n' c' ops' (HO'.out.grow A3.out.u) sB4 HR.out (by omega)).mono ?_
      rintro r w4 ⟨p', bl', bv', lv', rb', rc', rfl, hM', hOk', _, _, hb4⟩
      obtain ⟨l', hl'⟩ : ∃ l, playL g ops' = l := ⟨_, rfl⟩
      rw [hl'] at hM' hOk' ⊢
      obtain ⟨V4, hV4⟩ : ∃ V, (w4.alloc (sB4.box p')).alloc (.cells (refArr sB4 g (.slice (some ⟨rb', 0, none⟩) l'.length rc')) 55) = V := ⟨_, rfl⟩
      have b5 : Below w4.heap.size w4 V4 := by rw [← hV4]; exact (below_box _ _).alloc (by simp) _
      have A5 := Lib.hid ((A3.out.grow hb4).grow b5)
      have B5 : Hid (MxAt w g l' lv' sB4 p' bl' bv' w4.heap.size V4) := Lib.hid ⟨hM'.grow b5, by rw [← hV4]; exact (Blk.newAt rfl).alloc _, A5.out.x, A5.out.u⟩
      have OB := Lib.hid hOk'
      clear hM' hOk' hb4 b5 hl' x0 x1 x2 x3 x4 x5 hbad' hr A3
      obtain ⟨⟨y0, y1⟩, y2, y3⟩ := A5.out.y.scells
      go_wp2_with fail
      clear hV4
      cases hsa : sA3.right l with
      | false =>
        refine (snap_right_v V4 p bl bv g l lv sA3 A5.out.m OA.out.len1000 _ hsa).mono ?_
        rintro r w6 ⟨rfl, hb6⟩
        go_wp2
        go_ret
        exact ⟨rfl, A5.out.u.trans (hb6.mono A5.out.u.size)⟩
      | true =>
        refine (snap_right_v V4 p bl bv g l lv sA3 A5.out.m OA.out.len1000 _ hsa).mono ?_
        rintro r w6 ⟨rfl, hb6⟩
        have A6 := Lib.hid (A5.out.grow hb6)
        have B6 := Lib.hid (B5.out.grow hb6)
        clear hb6 y0 y1 y2 y3
        obtain ⟨⟨y0, y1⟩, y2, y3⟩ := B6.out.y.scells
        go_wp2_with fail
        cases hsb : sB4.right l' with
        | false =>
          refine (snap_right_v w6 p' bl' bv' g l' lv' sB4 B6.out.m OB.out.len1000 _ hsb).mono ?_
          rintro r w7 ⟨rfl, hb7⟩
          go_wp2
          go_ret
          exact ⟨rfl, A6.out.u.trans (hb7.mono A6.out.u.size)⟩
        | true =>
          refine (snap_right_v w6 p' bl' bv' g l' lv' sB4 B6.out.m OB.out.len1000 _ hsb).mono ?_
          rintro r w7 ⟨rfl, hb7⟩
          have A7 := Lib.hid (A6.out.grow hb7)
          have B7 := Lib.hid (B6.out.grow hb7)
          have HSA := Lib.hid hsa
          have HSB := Lib.hid hsb
          clear hb7 y0 y1 y2 y3 hsa hsb
          obtain ⟨⟨y0, y1⟩, y2, y3⟩ := A7.out.y.scells
          go_wp2_with fail
          refine (frames_yes w7 p bl bv g l lv sA3 A7.out.m (OA.out.sn HSA.out) 0 (holds00 HR.out)).mono ?_
          rintro r w8 ⟨b1, c1, rfl, _, hL1, hb8⟩
          have B8 := Lib.hid (B7.out.grow hb8)
          have L1 := Lib.hid hL1
          clear hb8 y0 y1 y2 y3 hL1
          obtain ⟨⟨y0, y1⟩, y2, y3⟩ := B8.out.y.scells
          go_wp2_with fail
          refine (frames_yes w8 p' bl' bv' g l' lv' sB4 B8.out.m (OB.out.sn HSB.out) 0 (holds00 HR.out)).mono ?_
          rintro r w9 ⟨b2, c2, rfl, _, hL2, hb9⟩
          have U9 := Lib.hid (B8.out.u.trans (hb9.mono B8.out.u.size))
          have L2 := Lib.hid hL2
          have L1' := Lib.hid (own_grow L1.out hb9).1
          obtain ⟨fx, hfx⟩ : ∃ fx, Hid (frames sA3 g l 0 = fx) := ⟨_, Lib.hid rfl⟩
          obtain ⟨fy, hfy⟩ : ∃ fy, Hid (frames sB4 g l' 0 = fy) := ⟨_, Lib.hid rfl⟩
          have okX : Hid (∀ f ∈ fx, f.Ok ∧ Byt f.bd) := Lib.hid (by rw [← hfx.out]; exact frames_byt _ _ _ _)
          have okY : Hid (∀ f ∈ fy, f.Ok ∧ Byt f.bd) := Lib.hid (by rw [← hfy.out]; exact frames_byt _ _ _ _)
          have hlx : fx.length = npG g := by rw [← hfx.out, frames_length, npG_len OA.out]
          have hly : fy.length = npG g := by rw [← hfy.out, frames_length, npG_len OB.out]
          have hnp := npG_parts HR.out
          have hx1 : 1 ≤ fx.length ∧ fx.length ≤ 1000 := by omega
          have hxy := Lib.hid (hlx.trans hly.symm)
          rw [hfx.out] at L1' ⊢
          rw [hfy.out] at L2 ⊢
          have HLX := Lib.hid hlx
          clear hb9 y0 y1 y2 y3 hL2 hlx hly hnp
          by_cases hat : at_ < 0 ∨ (fx.length : Int) ≤ at_
          · rcases hat with hat | hat
            · go_wp2
              go_ret
              exact ⟨rfl, U9.out⟩
            · have h0 : ¬ at_ < 0 := by omega
              go_wp2
              go_ret
              exact ⟨rfl, U9.out⟩
          · obtain ⟨m, rfl⟩ : ∃ m : Nat, at_ = m := ⟨at_.toNat, by omega⟩
            have hm : m < fx.length := by omega
            have hm2 : m < fy.length := by have := hxy.out; omega
            obtain ⟨i0, hi, hz0, hz1, hz2⟩ := info_parts info_frame
            have hn := own_nil (size := 49) (Blk.new_ w9 #[] 64) w9.heap.size (Nat.le_refl _)
            have one := flatF_one fx
            have len := flatF_length (fun f hf => (okX.out f hf).1)
            have hx : ∀ j u, (flatF fx)[j]? = some u → (w9.alloc (.cells #[] 64)).cell? ((⟨b1, 0, none⟩ : Addr).add j) = some u := by
              intro j u hu
              have hj := (List.getElem?_eq_some_iff.1 hu).1
              rw [len] at hj
              rw [Addr.add_nat_zero, (below_box w9 _).cell (p := ⟨b1, j, none⟩) (L1'.out.lt _ rfl).2, World.ownsRow.cellAt L1'.out j (by omega)]
              exact hu
            obtain ⟨fm, hfm⟩ : ∃ f, fy[m]? = some f := ⟨_, List.getElem?_eq_getElem hm2⟩
            have okm := okY.out fm (List.mem_of_getElem? hfm)
            have him : (Try.prog.info? 64).map (·.size) = some fm.arr.toList.length := by rw [Array.length_toList, Fr.size okm.1]; exact size_frame
            have hib : (Try.prog.info? 64).map (·.size) = some fm.arr.size := by rw [Fr.size okm.1]; exact size_frame
            have rm := rangeAt_row L2.out (fun f hf => (okY.out f hf).1) hfm
            have RM := Lib.hid rm
            have IM := Lib.hid him
            have IB := Lib.hid hib
            have OKM := Lib.hid okm
            have HFM := Lib.hid hfm
            have lt2 := Lib.hid (FrL.lt L2.out)
            clear hat rm him hib okm hfm
            have HSZ := Lib.hid (Fr.size OKM.out.1)
            go_wp2_with (first | (at_builtin; refine wpList_append_own _ rfl _ _ 58 rfl w9.heap.size 64 i0 (.agg Z49) 49 88 Try.underlying58 hi hz0 hz1 hz2 rfl (by omega) _ 0 [] rfl hn ⟨b1, 0, none⟩ fx.length c1 (flatF fx) rfl len hx one (by unfold maxLen; omega) (by omega) (by simp) ?_; intro v' w10 hown' hgrow hnil; obtain ⟨hb10, g', c', rfl, hL⟩ := appended_frs hx1.1 hown' hgrow; obtain ⟨cs, e0, e1, e2, e3, e4, e5⟩ := own_is hL; have E0 := Lib.hid e0; have R10 := Lib.hid (rangeAt_below RM.out lt2.out hb10); have U10 := Lib.hid (U9.out.trans (hb10.mono U9.out.size)); have hmc : m < c' := (by omega); have hfit := Lib.hid (show m * 49 + fm.arr.size ≤ cs.size by rw [HSZ.out, e4]; have : (m + 1) * 49 ≤ c' * 49 := Nat.mul_le_mul_right 49 (by omega); omega); have E4 := Lib.hid e4; have E5 := Lib.hid e5; have E23 := Lib.hid (And.intro e2 e3); clear hown' hgrow hnil hL e0 e4 e5 hb10) | (refine wpList_load_mid rfl 64 (.tmp 93) rfl b2 (m * 49) rfl fm.arr.toList _ R10.out Try.underlying64 rfl IM.out ?_) | (refine wpList_store_blk rfl 64 (.tmp 95) (.tmp 94) rfl g' (m * 49) fm.arr rfl rfl E0.out hfit.out IB.out (Fr.one fm) ?_; intro w11 hG11 hK11 hs11))
            have hz : Hid (FrsAt w11 (some ⟨g', 0, none⟩) fx.length c' (fx.set m fm)) := Lib.hid (FrsAt.over hG11.out okX.out OKM.out hm E23.out.1 E23.out.2 E4.out E5.out)
            have hnone : Hid (readR (fx.set m fm) = none) := Lib.hid (by
              have h1 : fm = frameAt sB4 g l' 0 m := by
                have := HFM.out
                rw [← hfy.out, frames_get _ _ _ _ _ (by have := hfy.out; rw [← frames_length sB4 g l' 0, this]; exact hm2)] at this
                injection this with this
                exact this.symm
              rw [h1, ← hfx.out]
              exact mixed_none OA.out OB.out HSA.out (by decide) m (by rw [← frames_length sA3 g l 0, hfx.out]; exact hm))
            have U11 : Hid (Below w.heap.size w w11) := Lib.hid (U10.out.trans (Keeps.below (hK11.out.mono U10.out.size (fun _ h => h)) (by have := U9.out.size; simp; omega)))
            refine (snap_read w11 _ _ _ _ hz.out).mono ?_
            rintro r w12 ⟨hb12, ⟨_, rfl⟩ | ⟨_, _, _, _, _, _, _, hs', _⟩⟩
            · have U12 := Lib.hid (U11.out.trans (hb12.mono U11.out.size))
              clear hb12
              go_wp2
              go_ret
              exact ⟨rfl, U12.out.alloc U12.out.size _⟩
            · rw [hnone.out] at hs'
              cases hs'
end Go.Proofs.Ytcgafnmpfdkfoaa
