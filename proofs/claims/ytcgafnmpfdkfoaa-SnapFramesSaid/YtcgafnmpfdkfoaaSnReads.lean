/- Law SnapReads: the walk. -/
import Derived.Test.YtcgafnmpfdkfoaaRead
namespace Go.Proofs.Ytcgafnmpfdkfoaa
open Go.RowKit

theorem readR_some {fs : List Fr} {s : Sn} {g : G} {l : List E} (h : readR fs = some (s, g, l)) : ∃ f0 rest, fs = f0 :: rest ∧ s.right l = true ∧ g.holds f0.zn 0 = true ∧ frames s g l f0.zn = fs.take (npG g) ∧ npG g ≤ fs.length := by
  cases fs with
  | nil => simp [readR] at h
  | cons f0 rest =>
    refine ⟨f0, rest, rfl, ?_⟩
    simp only [readR] at h
    cases hl : readL f0 (f0 :: rest) with
    | none => rw [hl] at h; cases h
    | some l' =>
      rw [hl] at h
      simp only at h
      cases ho : readOk f0 (f0 :: rest) l' with
      | false => rw [ho, if_neg (by simp)] at h; cases h
      | true =>
        rw [ho, if_pos rfl] at h
        injection h with h
        injection h with h1 h2
        injection h2 with h2 h3
        subst h1 h2 h3
        have hk := of_decide_eq_true ho
        refine ⟨hk.1, hk.2.1, hk.2.2, ?_⟩
        unfold readL at hl
        split at hl
        · rename_i hc; exact hc.2
        · cases hl

set_option maxRecDepth 100000 in
set_option maxHeartbeats 2000000 in
theorem snreads_walk (w : World) (A : Option Addr) (n c : Nat) (fs : List Fr) (h : FrsAt w A n c fs) :
    Calls Try.prog 8 #[.slice A n c] w fun r w' => r = .returned (.bool true) ∧ Below w.heap.size w w' := by
  have HF := Lib.hid h
  have hnc : n ≤ c ∧ c ≤ 9223372036854775807 := by obtain ⟨_, h2, h3, _⟩ := h; unfold maxLen at h3; omega
  clear h
  go_enter Try.func8, Try.ntmps8
  go_wp2_with fail
  refine (anchor12 w).mono ?_
  rintro r w1 ⟨rfl, hb1⟩
  have U1 := Lib.hid hb1
  clear hb1
  by_cases h60 : 60 < n
  · go_wp2
    go_ret
    exact ⟨rfl, U1.out⟩
  · have F1 := Lib.hid (HF.out.grow U1.out)
    go_wp2_with fail
    refine (snap_read w1 A n c fs F1.out).mono ?_
    rintro r w2 ⟨hb2, hp⟩
    have U2 : Hid (Below w.heap.size w w2) := Lib.hid (U1.out.trans (hb2.mono U1.out.size))
    have F2 := Lib.hid (F1.out.grow hb2)
    rcases hp with ⟨_, rfl⟩ | ⟨s, g, l, p, bl, bv, lv, hR, rfl, hM, hO, _, _, _⟩
    · clear hb2
      go_wp2
      go_ret
      exact ⟨rfl, U2.out.alloc U2.out.size _⟩
    · obtain ⟨f0, rest, hfs, hsr, hho, hfr, hnp⟩ := readR_some hR
      obtain ⟨V3, hV3⟩ : ∃ V, w2.alloc (s.box p) = V := ⟨_, rfl⟩
      have b3 : Below w2.heap.size w2 V3 := by rw [← hV3]; exact below_box _ _
      have y3 : Blk V3 w2.heap.size 53 (s.arr p) := by rw [← hV3]; exact Blk.newAt rfl
      have U3 : Hid (Below w.heap.size w V3) := Lib.hid (U2.out.trans (b3.mono U2.out.size))
      have M3 := Lib.hid (hM.grow b3)
      have F3 := Lib.hid (F2.out.grow b3)
      have Y3 := Lib.hid y3
      have HO := Lib.hid hO
      have hn1 : 1 ≤ n := by have := HF.out.1; rw [hfs] at this; simp at this; omega
      have hz1000 := hO.len1000
      have HFR := Lib.hid hfr
      have HNP := Lib.hid hnp
      have HFS := Lib.hid hfs
      have HSR := Lib.hid (And.intro hsr hho)
      obtain ⟨⟨y0, y1⟩, y2, y3'⟩ := Y3.out.scells
      clear hb2 b3 y3 hM hO hR hfs hfr hnp hsr hho
      go_wp2_with fail
      clear hV3
      refine (snap_right_v V3 p bl bv g l lv s M3.out hz1000 _ HSR.out.1).mono ?_
      rintro r w4 ⟨rfl, hb4⟩
      have U4 : Hid (Below w.heap.size w w4) := Lib.hid (U3.out.trans (hb4.mono U3.out.size))
      have M4 := Lib.hid (M3.out.grow hb4)
      have F4 := Lib.hid (F3.out.grow hb4)
      have Y4 := Lib.hid ((Keeps.of_below (S := []) hb4).blk Y3.out.lt (by simp) Y3.out)
      obtain ⟨hl, _, _, hok, hp⟩ := F4.out
      obtain ⟨b, off, rfl, hblt, hrg⟩ := hp hn1
      have HL5 := Lib.hid hrg
      have HL4 := Lib.hid hok
      have HLn := Lib.hid hl
      clear hb4 y0 y1 y2 y3' hp hrg hok hl
      obtain ⟨⟨y0, y1⟩, y2, y3⟩ := Y4.out.scells
      have hzn : w4.cell? ⟨b, off + 1, none⟩ = some (.int .i64 f0.zn) := by
        have := HL5.out 0 f0 (by rw [HFS.out]; rfl) 1 (.int .i64 f0.zn) (by unfold Fr.arr; simp)
        simpa using this
      have hyl := Y4.out.lt
      have HT : Hid (∀ w', Below w4.heap.size w4 w' → (w'.cell? ⟨w2.heap.size, 0, none⟩ = some (.int .i64 s.gen) ∧ w'.cell? ⟨w2.heap.size, 1, none⟩ = some (.int .i64 s.ep) ∧ w'.cell? ⟨w2.heap.size, 2, none⟩ = some (.int .i64 s.nx) ∧ w'.cell? ⟨w2.heap.size, 3, none⟩ = some (.pointer (some ⟨p, 0, none⟩))) ∧ w'.cell? ⟨b, off + 1, none⟩ = some (.int .i64 f0.zn)) :=
        Lib.hid fun w' hb => by
          have h1 := ((Keeps.of_below (S := []) hb).blk Y4.out.lt (by simp) Y4.out).scells
          exact ⟨⟨h1.1.1, h1.1.2, h1.2.1, h1.2.2⟩, (hb.cell (p := ⟨b, off + 1, none⟩) hblt).trans hzn⟩
      have hfr := Lib.hid (fun W (hb : Below w4.heap.size w4 W) => frames_yes W p bl bv g l lv s (M4.out.grow hb) (HO.out.sn HSR.out.1) f0.zn HSR.out.2)
      have h0n : (0 : Int) < (n : Int) := by omega
      have h0N : 0 < n := by omega
      have h0NN : ¬ (n = 0) := by omega
      have h0p : (0 : Int) ≤ (0 : Int) := by omega
      go_wp2_with fail
      go_region_held3 (fun w' => (w'.cell? ⟨w2.heap.size, 0, none⟩ = some (.int .i64 s.gen) ∧ w'.cell? ⟨w2.heap.size, 1, none⟩ = some (.int .i64 s.ep) ∧ w'.cell? ⟨w2.heap.size, 2, none⟩ = some (.int .i64 s.nx) ∧ w'.cell? ⟨w2.heap.size, 3, none⟩ = some (.pointer (some ⟨p, 0, none⟩))) ∧ w'.cell? ⟨b, off + 1, none⟩ = some (.int .i64 f0.zn)) (first | (go_keep; done) | exact HT.out _ hb8 | (trace_state; fail))
        ((go_at_call 39; refine (hfr.out _ (below_drew (Below.refl _ _))).mono ?_; rintro e w8 ⟨b1, c1, rfl, _, hL1, hb8'⟩; have hb8 : Below w4.heap.size w4 w8 := (below_drew (Below.refl _ _)).trans hb8'))
      have U8 : Hid (Below w.heap.size w w8) := Lib.hid (U4.out.trans (hb8.mono U4.out.size))
      have HB8 := Lib.hid hb8
      have L8 := Lib.hid hL1
      obtain ⟨fx, hfx⟩ : ∃ fx, Hid (frames s g l f0.zn = fx) := ⟨_, Lib.hid rfl⟩
      have okX : Hid (∀ f ∈ fx, f.Ok) := Lib.hid (by rw [← hfx.out]; exact frames_ok s g l f0.zn)
      have hlx : Hid (fx = fs.take (npG g)) := Lib.hid (by rw [← hfx.out, HFR.out])
      have hln : fx.length ≤ n := by have := HNP.out; have := HLn.out; rw [hlx.out, List.length_take]; omega
      rw [hfx.out] at L8 ⊢
      have hx1000 : fx.length ≤ 1000 := by omega
      clear hb8 hb8' hL1 hfr HT y0 y1 y2 y3 hzn h0n
      have hd1 : (decide (n < fx.length)) = false := by simp; omega
      have hd2 : ¬ (n < fx.length) := by omega
      go_wp2
      have HLN := Lib.hid hln
      clear hln hd1 hd2
      go_loopw [66] (fun i wr => ∃ k : Nat, k ≤ fx.length ∧ i = .int .i64 k ∧ Below w8.heap.size w8 wr) (fun i _ => fx.length - (intOf i).toNat)
      case atStart => exact ⟨0, Nat.zero_le _, rfl, Below.refl _ _⟩
      case round =>
        obtain ⟨k, hk, rfl, hB⟩ := hrel
        by_cases hlt2 : k < fx.length
        · obtain ⟨f, hf⟩ : ∃ f, fx[k]? = some f := ⟨_, List.getElem?_eq_getElem hlt2⟩
          have hkn : k < n := by have := HLN.out; omega
          have hh : fs[k]? = some f := by
            have h1 := hf
            rw [hlx.out, List.getElem?_take] at h1
            split at h1
            · exact h1
            · cases h1
          have o5 := (own_grow L8.out hB).1
          have rX := rangeAt_row o5 okX.out hf
          have fok := okX.out f (List.mem_of_getElem? hf)
          have hszX := Fr.size fok
          have heq' : ∀ W, (Op.equalIn 10000 64 (.agg f.arr) (.agg f.arr)).run Try.prog W = .ok true W := fun W => by rw [frame_eq f f fok fok W]; simp
          have hiX : (Try.prog.info? 64).map (·.size) = some f.arr.size := by rw [hszX]; exact size_frame
          have hiX' : (Try.prog.info? 64).map (·.size) = some f.arr.toList.length := by rw [Array.length_toList, hszX]; exact size_frame
          have hst1 : ∀ W : World, (storeCells ⟨W.heap.size, 0, none⟩ f.arr.toList 0).run Try.prog (W.alloc (.cells Z49 64)) = .ok () (W.alloc (.cells f.arr 64)) := fun W => run_storeCells_new W 64 Z49 f.arr hiX (by rw [hszX]; rfl) (Fr.one f)
          obtain ⟨V9, hV9⟩ : ∃ V, wr.alloc (.cells f.arr 64) = V := ⟨_, rfl⟩
          have b9 : Below wr.heap.size wr V9 := by rw [← hV9]; exact below_box _ _
          have F9 : Blk V9 wr.heap.size 64 f.arr := by rw [← hV9]; exact Blk.newAt rfl
          have u9 : Below w4.heap.size w4 V9 := HB8.out.trans ((hB.trans (b9.mono hB.size)).mono HB8.out.size)
          have rY : V9.rangeAt b (off + k * 49) f.arr.toList := rangeAt_below (HL5.out k f hh) hblt u9
          have bY : b < V9.heap.size := Nat.lt_of_lt_of_le hblt u9.size
          have hl1 : ∀ W, (∃ x : From V9, W = x.val) → W.rangeAt wr.heap.size 0 f.arr.toList := by
            rintro _ ⟨x, rfl⟩ j v hv
            rw [Nat.zero_add, x.cell wr.heap.size _ F9.lt, F9.cell]
            simpa using hv
          have hl2 : ∀ W, (∃ x : From V9, W = x.val) → W.rangeAt b (off + k * 49) f.arr.toList := by
            rintro _ ⟨x, rfl⟩; exact rangeAt_below rY bY x.below
          have q9 := F9.lt
          generalize f.arr = X at *
          have HL1 := Lib.hid hl1
          have HL2 := Lib.hid hl2
          have HIX := Lib.hid hiX
          have HIX' := Lib.hid hiX'
          have HB := Lib.hid hB
          have B9 := Lib.hid b9
          have RX := Lib.hid rX
          clear hl1 hl2 hiX hiX' o5 rX rY fok hf hh hB b9 F9 u9
          have hfrom := @From.cell V9
          go_wp2_with (refine wpList_load_mid rfl 64 (.tmp 69) rfl b1 (k * 49) rfl X.toList _ RX.out Try.underlying64 rfl HIX'.out ?_)
          clear hV9 hst1
          refine region_from (by kernel_rfl) (by kernel_rfl) ?_
          repeat (first
            | (go_big_quiet_want; refine quiet_load 64 (.tmp 8) rfl wr.heap.size 0 rfl X HL1.out _ Try.underlying64 rfl HIX.out ?_; go_simp; go_big_quiet_on)
            | (go_big_quiet_want; refine quiet_load 64 (.tmp 74) rfl b (off + k * 49) rfl X HL2.out _ Try.underlying64 rfl HIX.out ?_; go_simp; go_big_quiet_on)
            | (go_big_quiet_step (fail)))
          refine wpQuiet_nil ?_
          intro W hW
          have HW : Hid (Below w8.heap.size w8 W) := Lib.hid ((HB.out.trans (B9.out.mono HB.out.size)).trans (hW.mono (by have := HB.out.size; have := B9.out.size; omega)))
          clear hW hfrom heq'
          go_wp2
          go_roundw
          case rel => exact ⟨k + 1, by omega, by simp, HW.out⟩
          case measure => simp [intOf]; omega
        · obtain rfl : k = fx.length := by omega
          have HB := Lib.hid hB
          clear hB
          go_wp2
          go_ret
          exact ⟨rfl, U8.out.trans (HB.out.mono U8.out.size)⟩
end Go.Proofs.Ytcgafnmpfdkfoaa
