/- What the law CkptMoved stands on, part 4: At, SnReads, Mixed0, Parse, Moved0, Inv, Moved, Open, OpenG, OpenS, Head. No condition. -/
import Derived.Test.YtcgafnmpfdkfoaaTail
import Derived.Deep.AppendLies
import Derived.Deep.RegionHeld3
import Derived.Deep.MidRow
import Derived.WalkKit
import Derived.ProofKit
import Derived.OpenShut
import Derived.Deep.Slices
import Derived.KernelRfl
import Derived.Test.YtcgafnmpfdkfoaaSums2
import Derived.Test.YtcgafnmpfdkfoaaRows
import Derived.JoinedOf
import Derived.Test.YtcgafnmpfdkfoaaCkptMovedJ3
/- Layer 3: the frame of a place's sector: frame.At. -/
namespace Go.Proofs.Ytcgafnmpfdkfoaa
open Go.RowKit

def AtPost (w : World) (xs : List Int) (z o : Int) (r : Ending) (w' : World) : Prop :=
  Below w.heap.size w w' ∧ ((∃ f : Fr, (f.right = true ∧ f.Ok ∧ Byt f.bd) ∧ xs = sect f ∧ (f.zn = z ∧ f.off = o) ∧ r = .returned (.tuple #[.agg f.arr, .int .i64 0])) ∨
    (∃ e : Int, (e = 10 ∨ e = 11 ∨ e = 12) ∧ (∀ f : Fr, f.right = true → f.Ok → xs = sect f → ¬ (f.zn = z ∧ f.off = o)) ∧ r = .returned (.tuple #[.agg Z49, .int .i64 e])))
theorem Z49_one : Z49.all (·.oneCell') = true := by simp [Value.oneCell']
set_option maxRecDepth 100000 in
set_option maxHeartbeats 1000000 in
theorem frame_at (w : World) (xs : List Int) (hl : xs.length = 64) (hy : Byt xs) (z o : Int) :
    Calls Try.prog 57 #[.agg tabV, .agg (bys xs).toArray, .int .i64 z, .int .i64 o] w (AtPost w xs z o) := by
  obtain ⟨T, hT⟩ : ∃ T : Array Value, Hid (tabV = T) := ⟨_, Lib.hid rfl⟩
  have hTs : T.size = 256 := by rw [← hT.out]; exact tabV_size
  obtain ⟨D, hD⟩ : ∃ D : Array Value, Hid ((bys xs).toArray = D) := ⟨_, Lib.hid rfl⟩
  rw [hD.out, hT.out]
  have hDs : D.size = 64 := by rw [← hD.out, List.size_toArray, bys_length, hl]
  obtain ⟨V, hV⟩ : ∃ V, ((w.alloc (.cells T 83)).alloc (.cells D 89)).alloc (.cells Z49 64) = V := ⟨_, rfl⟩
  have b0 : Below w.heap.size w V := by rw [← hV]; exact ((below_box _ _).alloc (by simp) _).alloc (by simp; omega) _
  have k0 : Blk V w.heap.size 83 T := by rw [← hV]; exact ((Blk.newAt rfl).alloc _).alloc _
  have k1 : Blk V (w.heap.size + 1) 89 D := by rw [← hV]; exact (Blk.newAt (by simp)).alloc _
  have k2 : Blk V (w.heap.size + 2) 64 Z49 := by rw [← hV]; exact Blk.newAt (by simp)
  have HB := Lib.hid b0
  have K0 := Lib.hid k0
  have K1 := Lib.hid k1
  have K2 := Lib.hid k2
  have hszT : (Try.prog.info? 83).map (·.size) = some T.size := by rw [hTs]; exact size_table
  have HSZT := Lib.hid hszT
  have hszD : (Try.prog.info? 89).map (·.size) = some D.size := by rw [hDs]; exact size_sector
  have HSZD := Lib.hid hszD
  have HDEC : Hid (Calls Try.prog 99 #[.agg T, .agg D] V (DecPost V xs)) := Lib.hid (by rw [← hT.out, ← hD.out]; exact frame_decode V xs hl hy)
  clear b0 k0 k1 k2 hszT hszD
  go_enter Try.func57, Try.ntmps57
  go_wp2_with (first
    | (refine wpList_load_blk rfl 83 (.tmp 4) rfl w.heap.size 0 rfl K0.out T (row_whole T) _ Try.underlying83 rfl HSZT.out ?_)
    | (refine wpList_load_blk rfl 89 (.tmp 5) rfl (w.heap.size + 1) 0 rfl K1.out D (row_whole D) _ Try.underlying89 rfl HSZD.out ?_))
  clear hV
  refine HDEC.out.mono ?_
  rintro r w1 ⟨hb1, hpost⟩
  have K1' := Lib.hid ((Keeps.of_below (S := []) hb1).blk K2.out.lt (by simp) K2.out)
  have B1 := Lib.hid (HB.out.trans (hb1.mono HB.out.size))
  rcases hpost with ⟨f, hf, hx, rfl⟩ | ⟨e, he, hno, rfl⟩
  · have hfs := Fr.size hf.2.1
    have hi1 : (Try.prog.info? 64).map (·.size) = some f.arr.size := by rw [hfs]; exact size_frame
    have hst1 : ∀ W : World, (storeCells ⟨W.heap.size, 0, none⟩ f.arr.toList 0).run Try.prog (W.alloc (.cells Z49 64)) = .ok () (W.alloc (.cells f.arr 64)) := fun W => run_storeCells_new W 64 Z49 f.arr hi1 (by rw [hfs]; rfl) (Fr.one f)
    obtain ⟨V2, hV2⟩ : ∃ V, w1.alloc (.cells f.arr 64) = V := ⟨_, rfl⟩
    have b2 : Below w1.heap.size w1 V2 := by rw [← hV2]; exact below_box _ _
    have F2 : Blk V2 w1.heap.size 64 f.arr := by rw [← hV2]; exact Blk.newAt rfl
    have R2 := Lib.hid ((Keeps.of_below (S := []) b2).blk K1'.out.lt (by simp) K1'.out)
    have B2 := Lib.hid (B1.out.trans (b2.mono B1.out.size))
    have HF2 := Lib.hid F2
    have HI1 := Lib.hid hi1
    have HONE := Lib.hid (Fr.one f)
    have HFS := Lib.hid hfs
    obtain ⟨⟨x0, x1⟩, ⟨x2, x3⟩, x4⟩ := F2.fcells
    have hlt := F2.lt
    have HX := Lib.hid (And.intro hf hx)
    have HUQ : Hid (∀ h : Fr, h.right = true → h.Ok → xs = sect h → h = f) := Lib.hid fun h h1 h2 h3 => (sect_inj hf.1 h1 hf.2.1 h2 (hx.symm.trans h3)).symm
    clear b2 F2 hi1 hf hx hb1
    by_cases hz : f.zn = z
    · by_cases ho : f.off = o
      · obtain rfl := hz
        obtain rfl := ho
        obtain ⟨X, hX⟩ : ∃ X, Hid (f.arr = X) := ⟨_, Lib.hid rfl⟩
        go_wp2_with (first
          | (refine wpList_load_blk rfl 64 (.tmp 10) rfl w1.heap.size 0 rfl HF2.out f.arr (row_whole f.arr) _ Try.underlying64 rfl HI1.out ?_)
          | (refine wpList_store_blk rfl 64 (.tmp 8) (.tmp 33) rfl (w.heap.size + 2) 0 f.arr rfl rfl R2.out (by rw [HFS.out]; exact Nat.le_refl 49) HI1.out HONE.out ?_; intro W8 hG8 hK8 hs8))
        have hG := hG8.out
        rw [over_all (by rw [HFS.out]; rfl)] at hG
        have r1 : (loadVar 64 ⟨w.heap.size + 2, 0, none⟩).run Try.prog W8 = .ok (.agg f.arr) W8 := run_loadVar_row _ _ _ _ _ _ _ hG Try.underlying64 rfl HI1.out
        refine bodyPost_ret (v := .tuple #[.agg f.arr, .int .i64 0]) ?_ rfl ⟨?_, .inl ⟨f, HX.out.1, HX.out.2, ⟨rfl, rfl⟩, rfl⟩⟩
        · simp [results, Try.results57, asAddr, r1]
        · exact B2.out.trans (Keeps.below (hK8.out.mono B2.out.size (fun _ h => h)) (by simp))
      · obtain rfl := hz
        go_wp2_with (refine wpList_store_blk rfl 64 (.tmp 8) (.tmp 32) rfl (w.heap.size + 2) 0 Z49 rfl rfl R2.out (Nat.le_refl 49) size_frame Z49_one ?_; intro W8 hG8 hK8 hs8)
        have hG := hG8.out
        rw [over_all rfl] at hG
        have r1 : (loadVar 64 ⟨w.heap.size + 2, 0, none⟩).run Try.prog W8 = .ok (.agg Z49) W8 := run_loadVar_row _ _ _ _ _ _ _ hG Try.underlying64 rfl size_frame
        refine bodyPost_ret (v := .tuple #[.agg Z49, .int .i64 12]) ?_ rfl ⟨?_, .inr ⟨12, .inr (.inr rfl), fun h h1 h2 h3 h4 => ho (by rw [← HUQ.out h h1 h2 h3]; exact h4.2), rfl⟩⟩
        · simp [results, Try.results57, asAddr, r1]
        · exact B2.out.trans (Keeps.below (hK8.out.mono B2.out.size (fun _ h => h)) (by simp))
    · go_wp2_with (refine wpList_store_blk rfl 64 (.tmp 8) (.tmp 32) rfl (w.heap.size + 2) 0 Z49 rfl rfl R2.out (Nat.le_refl 49) size_frame Z49_one ?_; intro W8 hG8 hK8 hs8)
      have hG := hG8.out
      rw [over_all rfl] at hG
      have r1 : (loadVar 64 ⟨w.heap.size + 2, 0, none⟩).run Try.prog W8 = .ok (.agg Z49) W8 := run_loadVar_row _ _ _ _ _ _ _ hG Try.underlying64 rfl size_frame
      refine bodyPost_ret (v := .tuple #[.agg Z49, .int .i64 12]) ?_ rfl ⟨?_, .inr ⟨12, .inr (.inr rfl), fun h h1 h2 h3 h4 => hz (by rw [← HUQ.out h h1 h2 h3]; exact h4.1), rfl⟩⟩
      · simp [results, Try.results57, asAddr, r1]
      · exact B2.out.trans (Keeps.below (hK8.out.mono B2.out.size (fun _ h => h)) (by simp))
  · obtain ⟨X, hX⟩ : ∃ X : Array Value, Hid (Z49 = X) := ⟨_, Lib.hid rfl⟩
    have hXs : X.size = 49 := by rw [← hX.out]; rfl
    have hX1 : X.all (·.oneCell') = true := by rw [← hX.out]; exact Z49_one
    have hi1 : (Try.prog.info? 64).map (·.size) = some X.size := by rw [hXs]; exact size_frame
    have hst1 : ∀ W : World, (storeCells ⟨W.heap.size, 0, none⟩ X.toList 0).run Try.prog (W.alloc (.cells Z49 64)) = .ok () (W.alloc (.cells X 64)) := fun W => run_storeCells_new W 64 Z49 X hi1 (by rw [hXs]; rfl) hX1
    obtain ⟨V2, hV2⟩ : ∃ V, w1.alloc (.cells X 64) = V := ⟨_, rfl⟩
    have b2 : Below w1.heap.size w1 V2 := by rw [← hV2]; exact below_box _ _
    have R2 := Lib.hid ((Keeps.of_below (S := []) b2).blk K1'.out.lt (by simp) K1'.out)
    have B2 := Lib.hid (B1.out.trans (b2.mono B1.out.size))
    have he0 : ¬ e = 0 := by omega
    have HNO := Lib.hid hno
    have HE := Lib.hid he
    have HI1 := Lib.hid hi1
    clear b2 hb1 hno he hi1 hX1
    rw [hX.out]
    go_wp2_with (refine wpList_store_blk rfl 64 (.tmp 8) (.tmp 20) rfl (w.heap.size + 2) 0 Z49 rfl rfl R2.out (Nat.le_refl 49) size_frame Z49_one ?_; intro W8 hG8 hK8 hs8)
    have hG := hG8.out
    rw [over_all rfl] at hG
    have r1 : (loadVar 64 ⟨w.heap.size + 2, 0, none⟩).run Try.prog W8 = .ok (.agg Z49) W8 := run_loadVar_row _ _ _ _ _ _ _ hG Try.underlying64 rfl size_frame
    refine bodyPost_ret (v := .tuple #[.agg Z49, .int .i64 e]) ?_ rfl ⟨?_, .inr ⟨e, by rcases HE.out with h | h <;> simp [h], fun f h1 h2 h3 _ => HNO.out f h1 h2 h3, rfl⟩⟩
    · simp [results, Try.results57, asAddr, r1]
    · exact B2.out.trans (Keeps.below (hK8.out.mono B2.out.size (fun _ h => h)) (by simp))
end Go.Proofs.Ytcgafnmpfdkfoaa
/- Law SnapReads: the walk. -/
namespace Go.Proofs.Ytcgafnmpfdkfoaa
open Go.RowKit

theorem readR_some {fs : List Fr} {s : Sn} {g : G} {l : List E} (h : readR fs = some (s, g, l)) : ∃ f0 rest, fs = f0 :: rest ∧ s.right l = true ∧ g.holds f0.zn 0 = true ∧ frames s g l f0.zn = fs.take (npG g) ∧ npG g ≤ fs.length := by
  cases fs with
  | nil => simp [readR] at h
  | cons f0 rest =>
    refine ⟨f0, rest, rfl, ?_⟩
    simp only [readR] at h
    cases hl : readL f0 (f0 :: rest) with
    | none => rw [hl] at h; cases h
    | some l' =>
      rw [hl] at h
      simp only at h
      cases ho : readOk f0 (f0 :: rest) l' with
      | false => rw [ho, if_neg (by simp)] at h; cases h
      | true =>
        rw [ho, if_pos rfl] at h
        injection h with h
        injection h with h1 h2
        injection h2 with h2 h3
        subst h1 h2 h3
        have hk := of_decide_eq_true ho
        refine ⟨hk.1, hk.2.1, hk.2.2, ?_⟩
        unfold readL at hl
        split at hl
        · rename_i hc; exact hc.2
        · cases hl

set_option maxRecDepth 100000 in
set_option maxHeartbeats 2000000 in
theorem snreads_walk (w : World) (A : Option Addr) (n c : Nat) (fs : List Fr) (h : FrsAt w A n c fs) :
    Calls Try.prog 8 #[.slice A n c] w fun r w' => r = .returned (.bool true) ∧ Below w.heap.size w w' := by
  have HF := Lib.hid h
  have hnc : n ≤ c ∧ c ≤ 9223372036854775807 := by obtain ⟨_, h2, h3, _⟩ := h; unfold maxLen at h3; omega
  clear h
  go_enter Try.func8, Try.ntmps8
  go_wp2_with fail
  refine (anchor12 w).mono ?_
  rintro r w1 ⟨rfl, hb1⟩
  have U1 := Lib.hid hb1
  clear hb1
  by_cases h60 : 60 < n
  · go_wp2
    go_ret
    exact ⟨rfl, U1.out⟩
  · have F1 := Lib.hid (HF.out.grow U1.out)
    go_wp2_with fail
    refine (snap_read w1 A n c fs F1.out).mono ?_
    rintro r w2 ⟨hb2, hp⟩
    have U2 : Hid (Below w.heap.size w w2) := Lib.hid (U1.out.trans (hb2.mono U1.out.size))
    have F2 := Lib.hid (F1.out.grow hb2)
    rcases hp with ⟨_, rfl⟩ | ⟨s, g, l, p, bl, bv, lv, hR, rfl, hM, hO, _, _, _⟩
    · clear hb2
      go_wp2
      go_ret
      exact ⟨rfl, U2.out.alloc U2.out.size _⟩
    · obtain ⟨f0, rest, hfs, hsr, hho, hfr, hnp⟩ := readR_some hR
      obtain ⟨V3, hV3⟩ : ∃ V, w2.alloc (s.box p) = V := ⟨_, rfl⟩
      have b3 : Below w2.heap.size w2 V3 := by rw [← hV3]; exact below_box _ _
      have y3 : Blk V3 w2.heap.size 53 (s.arr p) := by rw [← hV3]; exact Blk.newAt rfl
      have U3 : Hid (Below w.heap.size w V3) := Lib.hid (U2.out.trans (b3.mono U2.out.size))
      have M3 := Lib.hid (hM.grow b3)
      have F3 := Lib.hid (F2.out.grow b3)
      have Y3 := Lib.hid y3
      have HO := Lib.hid hO
      have hn1 : 1 ≤ n := by have := HF.out.1; rw [hfs] at this; simp at this; omega
      have hz1000 := hO.len1000
      have HFR := Lib.hid hfr
      have HNP := Lib.hid hnp
      have HFS := Lib.hid hfs
      have HSR := Lib.hid (And.intro hsr hho)
      obtain ⟨⟨y0, y1⟩, y2, y3'⟩ := Y3.out.scells
      clear hb2 b3 y3 hM hO hR hfs hfr hnp hsr hho
      go_wp2_with fail
      clear hV3
      refine (snap_right_v V3 p bl bv g l lv s M3.out hz1000 _ HSR.out.1).mono ?_
      rintro r w4 ⟨rfl, hb4⟩
      have U4 : Hid (Below w.heap.size w w4) := Lib.hid (U3.out.trans (hb4.mono U3.out.size))
      have M4 := Lib.hid (M3.out.grow hb4)
      have F4 := Lib.hid (F3.out.grow hb4)
      have Y4 := Lib.hid ((Keeps.of_below (S := []) hb4).blk Y3.out.lt (by simp) Y3.out)
      obtain ⟨hl, _, _, hok, hp⟩ := F4.out
      obtain ⟨b, off, rfl, hblt, hrg⟩ := hp hn1
      have HL5 := Lib.hid hrg
      have HL4 := Lib.hid hok
      have HLn := Lib.hid hl
      clear hb4 y0 y1 y2 y3' hp hrg hok hl
      obtain ⟨⟨y0, y1⟩, y2, y3⟩ := Y4.out.scells
      have hzn : w4.cell? ⟨b, off + 1, none⟩ = some (.int .i64 f0.zn) := by
        have := HL5.out 0 f0 (by rw [HFS.out]; rfl) 1 (.int .i64 f0.zn) (by unfold Fr.arr; simp)
        simpa using this
      have hyl := Y4.out.lt
      have HT : Hid (∀ w', Below w4.heap.size w4 w' → (w'.cell? ⟨w2.heap.size, 0, none⟩ = some (.int .i64 s.gen) ∧ w'.cell? ⟨w2.heap.size, 1, none⟩ = some (.int .i64 s.ep) ∧ w'.cell? ⟨w2.heap.size, 2, none⟩ = some (.int .i64 s.nx) ∧ w'.cell? ⟨w2.heap.size, 3, none⟩ = some (.pointer (some ⟨p, 0, none⟩))) ∧ w'.cell? ⟨b, off + 1, none⟩ = some (.int .i64 f0.zn)) :=
        Lib.hid fun w' hb => by
          have h1 := ((Keeps.of_below (S := []) hb).blk Y4.out.lt (by simp) Y4.out).scells
          exact ⟨⟨h1.1.1, h1.1.2, h1.2.1, h1.2.2⟩, (hb.cell (p := ⟨b, off + 1, none⟩) hblt).trans hzn⟩
      have hfr := Lib.hid (fun W (hb : Below w4.heap.size w4 W) => frames_yes W p bl bv g l lv s (M4.out.grow hb) (HO.out.sn HSR.out.1) f0.zn HSR.out.2)
      have h0n : (0 : Int) < (n : Int) := by omega
      have h0N : 0 < n := by omega
      have h0NN : ¬ (n = 0) := by omega
      have h0p : (0 : Int) ≤ (0 : Int) := by omega
      go_wp2_with fail
      go_region_held3 (fun w' => (w'.cell? ⟨w2.heap.size, 0, none⟩ = some (.int .i64 s.gen) ∧ w'.cell? ⟨w2.heap.size, 1, none⟩ = some (.int .i64 s.ep) ∧ w'.cell? ⟨w2.heap.size, 2, none⟩ = some (.int .i64 s.nx) ∧ w'.cell? ⟨w2.heap.size, 3, none⟩ = some (.pointer (some ⟨p, 0, none⟩))) ∧ w'.cell? ⟨b, off + 1, none⟩ = some (.int .i64 f0.zn)) (first | (go_keep; done) | exact HT.out _ hb8 | (trace_state; fail))
        ((go_at_call 39; refine (hfr.out _ (below_drew (Below.refl _ _))).mono ?_; rintro e w8 ⟨b1, c1, rfl, _, hL1, hb8'⟩; have hb8 : Below w4.heap.size w4 w8 := (below_drew (Below.refl _ _)).trans hb8'))
      have U8 : Hid (Below w.heap.size w w8) := Lib.hid (U4.out.trans (hb8.mono U4.out.size))
      have HB8 := Lib.hid hb8
      have L8 := Lib.hid hL1
      obtain ⟨fx, hfx⟩ : ∃ fx, Hid (frames s g l f0.zn = fx) := ⟨_, Lib.hid rfl⟩
      have okX : Hid (∀ f ∈ fx, f.Ok) := Lib.hid (by rw [← hfx.out]; exact frames_ok s g l f0.zn)
      have hlx : Hid (fx = fs.take (npG g)) := Lib.hid (by rw [← hfx.out, HFR.out])
      have hln : fx.length ≤ n := by have := HNP.out; have := HLn.out; rw [hlx.out, List.length_take]; omega
      rw [hfx.out] at L8 ⊢
      have hx1000 : fx.length ≤ 1000 := by omega
      clear hb8 hb8' hL1 hfr HT y0 y1 y2 y3 hzn h0n
      have hd1 : (decide (n < fx.length)) = false := by simp; omega
      have hd2 : ¬ (n < fx.length) := by omega
      go_wp2
      have HLN := Lib.hid hln
      clear hln hd1 hd2
      go_loopw [66] (fun i wr => ∃ k : Nat, k ≤ fx.length ∧ i = .int .i64 k ∧ Below w8.heap.size w8 wr) (fun i _ => fx.length - (intOf i).toNat)
      case atStart => exact ⟨0, Nat.zero_le _, rfl, Below.refl _ _⟩
      case round =>
        obtain ⟨k, hk, rfl, hB⟩ := hrel
        by_cases hlt2 : k < fx.length
        · obtain ⟨f, hf⟩ : ∃ f, fx[k]? = some f := ⟨_, List.getElem?_eq_getElem hlt2⟩
          have hkn : k < n := by have := HLN.out; omega
          have hh : fs[k]? = some f := by
            have h1 := hf
            rw [hlx.out, List.getElem?_take] at h1
            split at h1
            · exact h1
            · cases h1
          have o5 := (own_grow L8.out hB).1
          have rX := rangeAt_row o5 okX.out hf
          have fok := okX.out f (List.mem_of_getElem? hf)
          have hszX := Fr.size fok
          have heq' : ∀ W, (Op.equalIn 10000 64 (.agg f.arr) (.agg f.arr)).run Try.prog W = .ok true W := fun W => by rw [frame_eq f f fok fok W]; simp
          have hiX : (Try.prog.info? 64).map (·.size) = some f.arr.size := by rw [hszX]; exact size_frame
          have hiX' : (Try.prog.info? 64).map (·.size) = some f.arr.toList.length := by rw [Array.length_toList, hszX]; exact size_frame
          have hst1 : ∀ W : World, (storeCells ⟨W.heap.size, 0, none⟩ f.arr.toList 0).run Try.prog (W.alloc (.cells Z49 64)) = .ok () (W.alloc (.cells f.arr 64)) := fun W => run_storeCells_new W 64 Z49 f.arr hiX (by rw [hszX]; rfl) (Fr.one f)
          obtain ⟨V9, hV9⟩ : ∃ V, wr.alloc (.cells f.arr 64) = V := ⟨_, rfl⟩
          have b9 : Below wr.heap.size wr V9 := by rw [← hV9]; exact below_box _ _
          have F9 : Blk V9 wr.heap.size 64 f.arr := by rw [← hV9]; exact Blk.newAt rfl
          have u9 : Below w4.heap.size w4 V9 := HB8.out.trans ((hB.trans (b9.mono hB.size)).mono HB8.out.size)
          have rY : V9.rangeAt b (off + k * 49) f.arr.toList := rangeAt_below (HL5.out k f hh) hblt u9
          have bY : b < V9.heap.size := Nat.lt_of_lt_of_le hblt u9.size
          have hl1 : ∀ W, (∃ x : From V9, W = x.val) → W.rangeAt wr.heap.size 0 f.arr.toList := by
            rintro _ ⟨x, rfl⟩ j v hv
            rw [Nat.zero_add, x.cell wr.heap.size _ F9.lt, F9.cell]
            simpa using hv
          have hl2 : ∀ W, (∃ x : From V9, W = x.val) → W.rangeAt b (off + k * 49) f.arr.toList := by
            rintro _ ⟨x, rfl⟩; exact rangeAt_below rY bY x.below
          have q9 := F9.lt
          generalize f.arr = X at *
          have HL1 := Lib.hid hl1
          have HL2 := Lib.hid hl2
          have HIX := Lib.hid hiX
          have HIX' := Lib.hid hiX'
          have HB := Lib.hid hB
          have B9 := Lib.hid b9
          have RX := Lib.hid rX
          clear hl1 hl2 hiX hiX' o5 rX rY fok hf hh hB b9 F9 u9
          have hfrom := @From.cell V9
          go_wp2_with (refine wpList_load_mid rfl 64 (.tmp 69) rfl b1 (k * 49) rfl X.toList _ RX.out Try.underlying64 rfl HIX'.out ?_)
          clear hV9 hst1
          refine region_from (by kernel_rfl) (by kernel_rfl) ?_
          repeat (first
            | (go_big_quiet_want; refine quiet_load 64 (.tmp 8) rfl wr.heap.size 0 rfl X HL1.out _ Try.underlying64 rfl HIX.out ?_; go_simp; go_big_quiet_on)
            | (go_big_quiet_want; refine quiet_load 64 (.tmp 74) rfl b (off + k * 49) rfl X HL2.out _ Try.underlying64 rfl HIX.out ?_; go_simp; go_big_quiet_on)
            | (go_big_quiet_step (fail)))
          refine wpQuiet_nil ?_
          intro W hW
          have HW : Hid (Below w8.heap.size w8 W) := Lib.hid ((HB.out.trans (B9.out.mono HB.out.size)).trans (hW.mono (by have := HB.out.size; have := B9.out.size; omega)))
          clear hW hfrom heq'
          go_wp2
          go_roundw
          case rel => exact ⟨k + 1, by omega, by simp, HW.out⟩
          case measure => simp [intOf]; omega
        · obtain rfl : k = fx.length := by omega
          have HB := Lib.hid hB
          clear hB
          go_wp2
          go_ret
          exact ⟨rfl, U8.out.trans (HB.out.mono U8.out.size)⟩
end Go.Proofs.Ytcgafnmpfdkfoaa
/- Frames of two snapshots, mixed: the plain law. -/
namespace Go.Proofs.Ytcgafnmpfdkfoaa
open Go.RowKit

theorem holds_right {g : G} {z o : Int} (h : g.holds z o = true) : g.right = true := by
  unfold G.holds at h
  simp only [Bool.and_eq_true] at h
  exact h.1.1
theorem frameAt_sq (s : Sn) (g : G) (l : List E) (z : Int) (i : Nat) : (frameAt s g l z i).sq = s.gen := by
  unfold frameAt
  split <;> rfl
theorem right_nx {s : Sn} {l : List E} (h : s.right l = true) : 1 ≤ s.nx ∧ s.nx ≤ 281474976710655 := by
  simp only [Sn.right, Bool.and_eq_true, wi_true] at h
  exact h.1.2
theorem mixed_none {sa sb : Sn} {g : G} {la lb : List E} {lva lvb : List Int} (ha : MapOk g la lva) (hb : MapOk g lb lvb) (hra : sa.right la = true) (hne : sa.gen ≠ sb.gen) (m : Nat) (hm : m < nparts la) :
    readR ((frames sa g la 0).set m (frameAt sb g lb 0 m)) = none := by
  cases hR : readR ((frames sa g la 0).set m (frameAt sb g lb 0 m)) with
  | none => rfl
  | some x =>
    exfalso
    obtain ⟨s, g', l'⟩ := x
    obtain ⟨f0, rest, hz, hsr, hho, hfr, hnp⟩ := readR_some hR
    have hg' := holds_right hho
    have hq := (npG_parts hg').2.1
    have hlen : (frames sa g la 0).length = nparts la := frames_length _ _ _ _
    have hl' : nparts l' = npG g' := by
      have := congrArg List.length hfr
      rw [frames_length, List.length_take] at this
      omega
    have hget : ∀ i, i < npG g' → ((frames sa g la 0).set m (frameAt sb g lb 0 m))[i]? = some (frameAt s g' l' f0.zn i) := by
      intro i hi
      have : (frames s g' l' f0.zn)[i]? = (((frames sa g la 0).set m (frameAt sb g lb 0 m)).take (npG g'))[i]? := by rw [hfr]
      rw [frames_get _ _ _ _ _ (by omega), List.getElem?_take, if_pos hi] at this
      exact this.symm
    have hset : ∀ i, i ≠ m → i < nparts la → ((frames sa g la 0).set m (frameAt sb g lb 0 m))[i]? = some (frameAt sa g la 0 i) := by
      intro i hi hl
      rw [List.getElem?_set_ne (fun h => hi h.symm)]
      exact frames_get _ _ _ _ _ hl
    have hself : ((frames sa g la 0).set m (frameAt sb g lb 0 m))[m]? = some (frameAt sb g lb 0 m) := List.getElem?_set_self (by omega)
    have hnl : npG g' ≤ nparts la := by rw [List.length_set, hlen] at hnp; exact hnp
    by_cases h0 : m = 0
    · subst h0
      have e0 := (hget 0 (by omega)).symm.trans hself
      have e1 := (hget 1 (by omega)).symm.trans (hset 1 (by omega) (by omega))
      injection e0 with e0
      injection e1 with e1
      have x0 := congrArg Fr.sq e0
      have x1 := congrArg Fr.sq e1
      rw [frameAt_sq, frameAt_sq] at x0 x1
      exact hne (x1.symm.trans x0)
    · have e0 := (hget 0 (by omega)).symm.trans (hset 0 (fun h => h0 h.symm) (by omega))
      injection e0 with e0
      have x0 := congrArg Fr.sq e0
      rw [frameAt_sq, frameAt_sq] at x0
      have hbd := congrArg Fr.bd e0
      simp only [frameAt, if_true] at hbd
      have n1 := right_nx hsr
      have n2 := right_nx hra
      have hgg := (headB_inj (G.small_of_right hg') (G.small_of_right ha.right) (by omega) (by omega) (by omega) (by omega) hbd).1
      subst hgg
      have hq2 := npG_len ha
      have e1 := (hget m (by omega)).symm.trans hself
      injection e1 with e1
      have x1 := congrArg Fr.sq e1
      rw [frameAt_sq, frameAt_sq] at x1
      exact hne (x0.symm.trans x1)
/-- A row of frames, as frames that lie. -/
theorem FrL.frs {w : World} {base b c : Nat} {fs : List Fr} (h : FrL base w (.slice (some ⟨b, 0, none⟩) fs.length c) fs) (hk : ∀ f ∈ fs, f.Ok ∧ Byt f.bd) : FrsAt w (some ⟨b, 0, none⟩) fs.length c fs := by
  obtain ⟨h1, h2⟩ := own_is' h
  refine ⟨rfl, h1, h2, hk, fun _ => ⟨b, 0, rfl, FrL.lt h, fun k f hf => ?_⟩⟩
  rw [Nat.zero_add]
  exact rangeAt_row h (fun f hf => (hk f hf).1) hf
theorem frames_byt (s : Sn) (g : G) (l : List E) (z : Int) : ∀ f ∈ frames s g l z, f.Ok ∧ Byt f.bd := by
  intro f hf
  refine ⟨frames_ok s g l z f hf, ?_⟩
  obtain ⟨i, _, rfl⟩ := List.mem_map.1 hf
  unfold frameAt
  split
  · exact headB_byt _ _
  · exact partB_byt _ _
theorem over_get (cs : Array Value) (o : Nat) (D : Array Value) (hfit : o + D.size ≤ cs.size) (m : Nat) : (over cs o D)[m]? = if o ≤ m ∧ m < o + D.size then D[m - o]? else cs[m]? := by
  unfold over
  simp only [List.getElem?_toArray, List.getElem?_append, List.length_take, Array.length_toList, Nat.min_eq_left (show o ≤ cs.size by omega), List.getElem?_take, List.getElem?_drop]
  by_cases h1 : m < o
  · rw [if_pos h1, if_pos h1, if_neg (by omega)]
    simp
  · rw [if_neg h1]
    by_cases h2 : m - o < D.size
    · rw [if_pos h2, if_pos (by omega)]
      simp
    · rw [if_neg h2, if_neg (by omega), show o + D.size + (m - o - D.size) = m by omega]
      simp
/-- A row of frames, one of which another frame has been laid over. -/
theorem FrsAt.over {w : World} {b : Nat} {cs : Array Value} {c : Nat} {fs : List Fr} {m : Nat} {h : Fr} {t : TypeId} (hB : Blk w b t (over cs (m * 49) h.arr)) (hk : ∀ f ∈ fs, f.Ok ∧ Byt f.bd) (hh : h.Ok ∧ Byt h.bd) (hm : m < fs.length) (hnc : fs.length ≤ c) (hc : c ≤ maxLen) (hs : cs.size = c * 49) (ht : cs.toList.take (fs.length * 49) = flatF fs) :
    FrsAt w (some ⟨b, 0, none⟩) fs.length c (fs.set m h) := by
  have hsz := Fr.size hh.1
  have hfit : m * 49 + h.arr.size ≤ cs.size := by
    rw [hsz, hs]
    have : (m + 1) * 49 ≤ c * 49 := Nat.mul_le_mul_right 49 (by omega)
    omega
  refine ⟨by simp, hnc, hc, fun f hf => ?_, fun _ => ⟨b, 0, rfl, hB.lt, fun k f hf => ?_⟩⟩
  · rcases List.mem_or_eq_of_mem_set hf with h' | rfl
    · exact hk f h'
    · exact hh
  · rw [Nat.zero_add]
    intro j v hv
    rw [hB.cell, over_get cs _ _ hfit]
    by_cases hkm : k = m
    · subst hkm
      rw [List.getElem?_set_self hm] at hf
      injection hf with hf
      subst hf
      have hj := (List.getElem?_eq_some_iff.1 hv).1
      rw [if_pos ⟨by omega, by simpa using hj⟩, show k * 49 + j - k * 49 = j by omega]
      simpa using hv
    · rw [List.getElem?_set_ne (fun h => hkm h.symm)] at hf
      have hfk := hk f (List.mem_of_getElem? hf)
      have hj := (List.getElem?_eq_some_iff.1 hv).1
      rw [Array.length_toList, Fr.size hfk.1] at hj
      have hkl := (List.getElem?_eq_some_iff.1 hf).1
      rw [hsz, if_neg (by
        rintro ⟨h1, h2⟩
        rcases Nat.lt_or_gt_of_ne hkm with h3 | h3
        · have : (k + 1) * 49 ≤ m * 49 := Nat.mul_le_mul_right 49 (by omega)
          omega
        · have : (m + 1) * 49 ≤ k * 49 := Nat.mul_le_mul_right 49 (by omega)
          omega)]
      have hg := flatF_get (fun f hf => (hk f hf).1) k f hf
      have h4 : ((flatF fs).drop (k * 49)).take 49 = f.arr.toList := hg
      have h5 : (flatF fs)[k * 49 + j]? = some v := by
        rw [← h4, List.getElem?_take, if_pos hj, List.getElem?_drop] at hv
        exact hv
      rw [← ht, List.getElem?_take] at h5
      split at h5
      · simpa using h5
      · cases h5
theorem OpsAt.grow {w w1 : World} {A : Option Addr} {n c : Nat} {ops : List Op11} (h : OpsAt w A n c ops) (k : Below w.heap.size w w1) : OpsAt w1 A n c ops := by
  obtain ⟨h1, h2, h3, h4⟩ := h
  refine ⟨h1, h2, h3, fun hp => ?_⟩
  obtain ⟨b', off, e1, e2, e3⟩ := h4 hp
  have hk : ∀ o, w1.cell? ⟨b', o, none⟩ = w.cell? ⟨b', o, none⟩ := fun o => k.cell (p := ⟨b', o, none⟩) e2
  exact ⟨b', off, e1, Nat.lt_of_lt_of_le e2 k.size, fun i o ho => by simpa only [hk] using e3 i o ho⟩
end Go.Proofs.Ytcgafnmpfdkfoaa
/- Layer 13: the snapshot of a zone's sectors: ckpt.Parse. -/
namespace Go.Proofs.Ytcgafnmpfdkfoaa
open Go.RowKit

/-- Sectors, as they lie: any. -/
def SecIn (w : World) (A : Option Addr) (n c : Nat) (ss : List (List Int)) : Prop :=
  ss.length = n ∧ n ≤ c ∧ c ≤ maxLen ∧ (∀ xs ∈ ss, xs.length = 64 ∧ Byt xs) ∧ (0 < n → ∃ b off, A = some ⟨b, off, none⟩ ∧ b < w.heap.size ∧ ∀ k xs, ss[k]? = some xs → w.rangeAt b (off + k * 64) (bys xs))
theorem SecIn.grow {w w1 : World} {A : Option Addr} {n c : Nat} {ss : List (List Int)} (h : SecIn w A n c ss) (k : Below w.heap.size w w1) : SecIn w1 A n c ss := by
  obtain ⟨h1, h2, h3, h4, h5⟩ := h
  refine ⟨h1, h2, h3, h4, fun hn => ?_⟩
  obtain ⟨b, off, e1, e2, e3⟩ := h5 hn
  exact ⟨b, off, e1, Nat.lt_of_lt_of_le e2 k.size, fun i f hf => rangeAt_below (e3 i f hf) e2 k⟩
theorem SecsAt.into {w : World} {A : Option Addr} {n c : Nat} {fs : List Fr} (h : SecsAt w A n c fs) (hk : ∀ f ∈ fs, f.Ok ∧ Byt f.bd) : SecIn w A n c (fs.map sect) := by
  obtain ⟨h1, h2, h3, h4⟩ := h
  refine ⟨by rw [List.length_map, h1], h2, h3, fun xs hx => ?_, fun hn => ?_⟩
  · obtain ⟨f, hf, rfl⟩ := List.mem_map.1 hx
    exact ⟨sect_length (hk f hf).1, sect_byt (hk f hf).2⟩
  · obtain ⟨b, e1, e2, e3⟩ := h4 hn
    refine ⟨b, 0, e1, e2, fun k xs hx => ?_⟩
    rw [List.getElem?_map, Option.map_eq_some_iff] at hx
    obtain ⟨f, hf, rfl⟩ := hx
    have := e3 k f hf
    rw [Nat.zero_add]
    simpa [secV] using this
/-- The frames that sectors begin with. -/
structure Parsed (z : Int) (ss : List (List Int)) (fs : List Fr) : Prop where
  len : fs.length ≤ ss.length
  ok : ∀ (k : Nat) (f : Fr), fs[k]? = some f → (f.right = true ∧ f.Ok ∧ Byt f.bd) ∧ ss[k]? = some (sect f) ∧ f.zn = z ∧ f.off = (k : Int)
  stop : ∀ f : Fr, f.right = true → f.Ok → ss[fs.length]? = some (sect f) → ¬ (f.zn = z ∧ f.off = (fs.length : Int))
def ParsePost (w : World) (z : Int) (ss : List (List Int)) (r : Ending) (w' : World) : Prop := ∃ fs, Parsed z ss fs ∧ ReadPost w fs r w'
theorem frs_of_own {W : World} {base n : Nat} {v : Value} {fs : List Fr} (h : W.ownsRow base 64 49 v n (flatF fs)) (hn : fs.length = n) (hk : ∀ f ∈ fs, f.Ok ∧ Byt f.bd) : ∃ A c, v = .slice A n c ∧ FrsAt W A n c fs := by
  rcases h.2 with ⟨rfl, rfl⟩ | ⟨g, c, cs, rfl, hb, hg, hnc, hcm, h5⟩
  · exact ⟨none, 0, rfl, hn, Nat.le_refl _, Nat.zero_le _, hk, fun h => absurd h (by omega)⟩
  · refine ⟨_, c, rfl, ?_⟩
    subst hn
    exact FrL.frs (base := base) h hk
theorem ReadPost.up {w W w' : World} {fs : List Fr} {r : Ending} (h : ReadPost W fs r w') (b : Below w.heap.size w W) : ReadPost w fs r w' := by
  obtain ⟨h1, h2⟩ := h
  refine ⟨b.trans (h1.mono b.size), ?_⟩
  rcases h2 with h2 | ⟨s, g, l, p, bl, bv, lv, e1, e2, e3, e4, e5, e6, e7⟩
  · exact .inl h2
  · exact .inr ⟨s, g, l, p, bl, bv, lv, e1, e2, e3, e4, Nat.le_trans b.size e5, Nat.le_trans b.size e6, Nat.le_trans b.size e7⟩
theorem sn_one (s : Sn) (p : Nat) : (s.arr p).all (·.oneCell') = true := by simp [Value.oneCell']
set_option maxRecDepth 100000 in
set_option maxHeartbeats 2000000 in
theorem ckpt_parse (w : World) (z : Int) (A : Option Addr) (n c : Nat) (ss : List (List Int)) (h : SecIn w A n c ss) (h1000 : n ≤ 1000) :
    Calls Try.prog 55 #[.agg tabV, .int .i64 z, .slice A n c] w (ParsePost w z ss) := by
  obtain ⟨T, hT⟩ : ∃ T : Array Value, Hid (tabV = T) := ⟨_, Lib.hid rfl⟩
  have hTs : T.size = 256 := by rw [← hT.out]; exact tabV_size
  rw [hT.out]
  obtain ⟨V, hV⟩ : ∃ V, (w.alloc (.cells T 83)).alloc (.cells #[.int .i64 0, .int .i64 0, .int .i64 0, .pointer none] 53) = V := ⟨_, rfl⟩
  have b0 : Below w.heap.size w V := by rw [← hV]; exact (below_box _ _).alloc (by simp) _
  have k0 : Blk V w.heap.size 83 T := by rw [← hV]; exact (Blk.newAt rfl).alloc _
  have k1 : Blk V (w.heap.size + 1) 53 #[.int .i64 0, .int .i64 0, .int .i64 0, .pointer none] := by rw [← hV]; exact Blk.newAt (by simp)
  have HB := Lib.hid b0
  have K0 := Lib.hid k0
  have K1 := Lib.hid k1
  have HI := Lib.hid (h.grow b0)
  have hss := h.1
  have hnc : n ≤ c ∧ c ≤ 9223372036854775807 := by have := h.2.1; have := h.2.2.1; unfold maxLen at *; omega
  obtain ⟨hnc1, hnc2⟩ := hnc
  have hszT : (Try.prog.info? 83).map (·.size) = some T.size := by rw [hTs]; exact size_table
  have HSZT := Lib.hid hszT
  clear b0 k0 k1 hszT h
  go_enter Try.func55, Try.ntmps55
  go_wp2
  clear hV
  go_loopw [8, 15] (fun v i wr => ∃ fs : List Fr, fs.length ≤ n ∧ i = .int .i64 fs.length ∧ wr.ownsRow V.heap.size 64 49 v fs.length (flatF fs) ∧ (∀ (k : Nat) (f : Fr), fs[k]? = some f → (f.right = true ∧ f.Ok ∧ Byt f.bd) ∧ ss[k]? = some (sect f) ∧ f.zn = z ∧ f.off = (k : Int)) ∧ Below V.heap.size V wr) (fun _ i _ => n - (intOf i).toNat)
  case atStart => exact ⟨[], Nat.zero_le _, rfl, ⟨by simp [flatF], .inl ⟨rfl, rfl⟩⟩, by simp, Below.refl _ _⟩
  case round =>
    obtain ⟨fs, hk, rfl, hown, hall, hB⟩ := hrel
    have HROW := Lib.hid hown
    have HALL := Lib.hid hall
    have HBV := Lib.hid hB
    have HOK : Hid (∀ f ∈ fs, f.Ok ∧ Byt f.bd) := Lib.hid (fun f hf => by
      obtain ⟨k, hk⟩ := List.mem_iff_getElem?.1 hf
      exact ⟨(hall k f hk).1.2.1, (hall k f hk).1.2.2⟩)
    clear hown hall hB
    by_cases hlt : fs.length < n
    · obtain ⟨b, off, rfl, hbl, hrg⟩ := HI.out.2.2.2.2 (by omega)
      obtain ⟨xs, hxs⟩ : ∃ xs, ss[fs.length]? = some xs := ⟨_, List.getElem?_eq_getElem (by omega)⟩
      obtain ⟨hxl, hxb⟩ := HI.out.2.2.2.1 xs (List.mem_of_getElem? hxs)
      have hr := rangeAt_below (hrg _ _ hxs) hbl HBV.out
      obtain ⟨D, hD⟩ : ∃ D : Array Value, Hid ((bys xs).toArray = D) := ⟨_, Lib.hid rfl⟩
      have hDs : D.size = 64 := by rw [← hD.out, List.size_toArray, bys_length, hxl]
      have hD1 : D.all (·.oneCell') = true := by rw [← hD.out]; exact all_oneCell_toArray (bys_one _)
      have hDL : Hid (wr.rangeAt b (off + fs.length * 64) D.toList) := Lib.hid (by rw [← hD.out]; exact hr)
      have hDi : (Try.prog.info? 89).map (·.size) = some D.size := by rw [hDs]; exact size_sector
      have hDi' : (Try.prog.info? 89).map (·.size) = some D.toList.length := by rw [Array.length_toList, hDs]; exact size_sector
      have hst2 : ∀ W : World, (storeCells ⟨W.heap.size, 0, none⟩ D.toList 0).run Try.prog (W.alloc (.cells Z64 89)) = .ok () (W.alloc (.cells D 89)) := fun W => run_storeCells_new W 89 Z64 D hDi (by rw [hDs]; rfl) hD1
      obtain ⟨V9, hV9⟩ : ∃ V, wr.alloc (.cells D 89) = V := ⟨_, rfl⟩
      have b9 : Below wr.heap.size wr V9 := by rw [← hV9]; exact below_box _ _
      have T9 := Lib.hid ((Keeps.of_below (S := []) (HBV.out.trans (b9.mono HBV.out.size))).blk K0.out.lt (by simp) K0.out)
      have S9 := Lib.hid ((Keeps.of_below (S := []) (HBV.out.trans (b9.mono HBV.out.size))).blk K1.out.lt (by simp) K1.out)
      have F9 : Hid (Blk V9 wr.heap.size 89 D) := Lib.hid (by rw [← hV9]; exact Blk.newAt rfl)
      have B9 := Lib.hid (HBV.out.trans (b9.mono HBV.out.size))
      have O9 := Lib.hid (own_grow' HROW.out b9)
      have HDI := Lib.hid hDi
      have HDI' := Lib.hid hDi'
      have HXS := Lib.hid hxs
      have HAT : Hid (Calls Try.prog 57 #[.agg T, .agg D, .int .i64 z, .int .i64 fs.length] V9 (AtPost V9 xs z fs.length)) := Lib.hid (by rw [← hT.out, ← hD.out]; exact frame_at V9 xs hxl hxb z _)
      clear hxs hr hDi hDi' hD1 b9 hrg
      go_wp2_with (first
        | (refine wpList_load_mid rfl 89 (.tmp 18) rfl b (off + fs.length * 64) rfl D.toList _ hDL.out Try.underlying89 rfl HDI'.out ?_)
        | (refine wpList_load_blk rfl 83 (.tmp 3) rfl w.heap.size 0 rfl T9.out T (row_whole T) _ Try.underlying83 rfl HSZT.out ?_)
        | (refine wpList_load_blk rfl 89 (.tmp 10) rfl wr.heap.size 0 rfl F9.out D (row_whole D) _ Try.underlying89 rfl HDI.out ?_))
      clear hV9 hst2
      refine HAT.out.mono ?_
      rintro r w4 ⟨hb4, hpost⟩
      rcases hpost with ⟨f, hf, hx, hzo, rfl⟩ | ⟨e, he, hno, rfl⟩
      · have hfs := Fr.size hf.2.1
        have hi1 : (Try.prog.info? 64).map (·.size) = some f.arr.size := by rw [hfs]; exact size_frame
        have hst1 : ∀ W : World, (storeCells ⟨W.heap.size, 0, none⟩ f.arr.toList 0).run Try.prog (W.alloc (.cells Z49 64)) = .ok () (W.alloc (.cells f.arr 64)) := fun W => run_storeCells_new W 64 Z49 f.arr hi1 (by rw [hfs]; rfl) (Fr.one f)
        have hsf := slice_fold f.arr hfs
        obtain ⟨V5, hV5⟩ : ∃ V, w4.alloc (.cells f.arr 64) = V := ⟨_, rfl⟩
        have b5 : Below w4.heap.size w4 V5 := by rw [← hV5]; exact below_box _ _
        have F5 : Hid (Blk V5 w4.heap.size 64 f.arr) := Lib.hid (by rw [← hV5]; exact Blk.newAt rfl)
        obtain ⟨V6, hV6⟩ : ∃ V, V5.alloc (.cells f.arr 64) = V := ⟨_, rfl⟩
        have b6 : Below V5.heap.size V5 V6 := by rw [← hV6]; exact below_box _ _
        have bb6 : Below V9.heap.size V9 V6 := hb4.trans ((b5.trans (b6.mono b5.size)).mono hb4.size)
        have B6 := Lib.hid (B9.out.trans (bb6.mono B9.out.size))
        have O6 := Lib.hid (own_grow' O9.out bb6)
        have X6 : Hid (∀ j v, f.arr.toList[j]? = some v → V6.cell? ((⟨V5.heap.size, 0, none⟩ : Addr).add j) = some v) := Lib.hid fun j v hv => by
          rw [add_at, Nat.zero_add, ← hV6, cell_of_row _ _ j f.arr _ (0, 0) (heap_alloc_new V5 _)]
          simpa using hv
        have HI1 := Lib.hid hi1
        have HFS := Lib.hid hfs
        have HFF := Lib.hid (And.intro hf (And.intro hx hzo))
        have HONE := Lib.hid (Fr.one f)
        have HF5 := F5
        obtain ⟨i0, hi, hz0, hz1, hz2⟩ := info_parts info_frame
        have HL1 : Hid (f.arr.toList.length = 1 * 49) := Lib.hid (by rw [Array.length_toList, hfs])
        clear b5 b6 bb6 hi1 hf hx hzo hb4
        generalize hfarr : f.arr = X at *
        go_wp2_with (first
          | (refine wpList_load_blk rfl 64 (.tmp 11) rfl w4.heap.size 0 rfl F5.out X (row_whole X) _ Try.underlying64 rfl HI1.out ?_)
          | (at_builtin; refine Hid.out ?_))
        refine Lib.hid ?_
        refine wpList_append_own _ rfl _ _ 58 rfl V.heap.size 64 i0 (.agg Z49) 49 88 Try.underlying58 hi hz0 hz1 hz2 rfl (by omega) u8 fs.length (flatF fs) rfl O6.out ⟨V5.heap.size, 0, none⟩ 1 1 X.toList rfl HL1.out X6.out (fun v hv => (Array.all_eq_true_iff_forall_mem.1 HONE.out) v (by simpa using hv)) (by unfold maxLen; omega) (by omega) (by have := B6.out.size; omega) ?_
        intro v' w10 hown' hgrow hnil
        have B10 := Lib.hid (B6.out.grown hgrow B6.out.size (fun j ej => (World.ownsRow.lt O6.out j ej).1))
        have O10 : Hid (w10.ownsRow V.heap.size 64 49 v' (fs ++ [f]).length (flatF (fs ++ [f]))) := Lib.hid (by
          rw [List.length_append, flatF_append]
          have e : flatF [f] = X.toList := by rw [← hfarr]; simp [flatF]
          rw [e]; exact hown')
        have A10 : Hid (∀ (k : Nat) (h : Fr), (fs ++ [f])[k]? = some h → (h.right = true ∧ h.Ok ∧ Byt h.bd) ∧ ss[k]? = some (sect h) ∧ h.zn = z ∧ h.off = (k : Int)) := Lib.hid fun k h hk => by
          by_cases hlt2 : k < fs.length
          · rw [List.getElem?_append_left hlt2] at hk; exact HALL.out k h hk
          · rw [List.getElem?_append_right (by omega)] at hk
            have : k = fs.length := by
              rcases Nat.lt_or_ge (k - fs.length) 1 with h1 | h1
              · omega
              · rw [List.getElem?_eq_none (by simpa using h1)] at hk; cases hk
            subst this
            rw [Nat.sub_self] at hk
            simp only [List.getElem?_cons_zero, Option.some.injEq] at hk
            subst hk
            exact ⟨HFF.out.1, by rw [HXS.out, HFF.out.2.1], HFF.out.2.2.1, HFF.out.2.2.2⟩
        clear hown' hgrow hnil hV5 hV6 hst1 hsf
        go_wp2
        go_roundw
        case rel => exact ⟨fs ++ [f], by simp; omega, by simp, O10.out, A10.out, B10.out⟩
        case measure => simp [intOf]; omega
      · obtain ⟨X, hX⟩ : ∃ X : Array Value, Hid (Z49 = X) := ⟨_, Lib.hid rfl⟩
        have hXs : X.size = 49 := by rw [← hX.out]; rfl
        have hX1 : X.all (·.oneCell') = true := by rw [← hX.out]; exact Z49_one
        have hi1 : (Try.prog.info? 64).map (·.size) = some X.size := by rw [hXs]; exact size_frame
        have hst1 : ∀ W : World, (storeCells ⟨W.heap.size, 0, none⟩ X.toList 0).run Try.prog (W.alloc (.cells Z49 64)) = .ok () (W.alloc (.cells X 64)) := fun W => run_storeCells_new W 64 Z49 X hi1 (by rw [hXs]; rfl) hX1
        obtain ⟨V5, hV5⟩ : ∃ V, w4.alloc (.cells X 64) = V := ⟨_, rfl⟩
        have b5 : Below w4.heap.size w4 V5 := by rw [← hV5]; exact below_box _ _
        have bb5 : Below V9.heap.size V9 V5 := hb4.trans (b5.mono hb4.size)
        have he0 : ¬ e = 0 := by omega
        have HPA : Hid (Parsed z ss fs) := Lib.hid ⟨by omega, HALL.out, fun f h1 h2 h3 => hno f h1 h2 (Option.some.inj (HXS.out.symm.trans h3))⟩
        have HBW := Lib.hid (HB.out.trans ((B9.out.trans (bb5.mono B9.out.size)).mono HB.out.size))
        have HRES := Lib.hid ((Keeps.of_below (S := []) bb5).blk S9.out.lt (by simp) S9.out)
        have HROW := Lib.hid (own_grow' O9.out bb5)
        clear b5 bb5 hno he hb4 hi1 hX1
        rw [hX.out]
        obtain ⟨AF, cF, rfl, hFR⟩ := frs_of_own HROW.out rfl HOK.out
        have HFR := Lib.hid hFR
        clear hFR
        go_wp2_with fail
        refine (snap_read V5 AF _ cF fs HFR.out).mono ?_
        rintro r w7 ⟨hb7, hpost⟩
        have RS7 := Lib.hid ((Keeps.of_below (S := []) hb7).blk HRES.out.lt (by simp) HRES.out)
        have B7 := Lib.hid (HBW.out.trans (hb7.mono HBW.out.size))
        clear hb7
        rcases hpost with ⟨hno, rfl⟩ | ⟨s1, g1, l1, p1, bl1, bv1, lv1, hR1, rfl, hM1, hO1, n1, n2, n3⟩
        · have HNO := Lib.hid hno
          clear hno
          go_wp2_with (refine wpList_store_blk rfl 53 (.tmp 6) (.tmp 37) rfl (w.heap.size + 1) 0 #[.int .i64 0, .int .i64 0, .int .i64 0, .pointer none] rfl rfl RS7.out (Nat.le_refl 4) size_snap (by simp [Value.oneCell']) ?_; intro W8 hG8 hK8 hs8)
          have hG := hG8.out
          rw [over_all rfl] at hG
          have r1 : (loadVar 53 ⟨w.heap.size + 1, 0, none⟩).run Try.prog W8 = .ok sn0 W8 := run_loadVar_row _ _ _ _ _ _ _ hG Try.underlying53 rfl size_snap
          refine bodyPost_ret (v := .tuple #[sn0, .int .i64 10]) ?_ rfl ⟨fs, HPA.out, ?_, .inl ⟨HNO.out, rfl⟩⟩
          · simp [results, Try.results55, asAddr, r1]
          · exact B7.out.trans (Keeps.below (hK8.out.mono B7.out.size (fun _ h => h)) (by simp))
        · have HM := Lib.hid hM1
          have HO1 := Lib.hid hO1
          have HR1 := Lib.hid hR1
          have HN1 := Lib.hid (And.intro n1 (And.intro n2 n3))
          clear hM1 hO1 hR1 n1 n2 n3
          go_wp2_with (refine wpList_store_blk rfl 53 (.tmp 6) (.tmp 37) rfl (w.heap.size + 1) 0 (s1.arr p1) rfl rfl RS7.out (Nat.le_refl 4) size_snap (sn_one s1 p1) ?_; intro W8 hG8 hK8 hs8)
          have hG := hG8.out
          rw [over_all (cs := #[.int .i64 0, .int .i64 0, .int .i64 0, .pointer none]) (D := s1.arr p1) rfl] at hG
          have r1 : (loadVar 53 ⟨w.heap.size + 1, 0, none⟩).run Try.prog W8 = .ok (s1.v p1) W8 := run_loadVar_row _ _ _ _ _ _ _ hG Try.underlying53 rfl size_snap
          have hlt := HRES.out.lt
          have hw := HBW.out.size
          have hml := HM.out.lt
          refine bodyPost_ret (v := .tuple #[s1.v p1, .int .i64 0]) ?_ rfl ⟨fs, HPA.out, ?_, .inr ⟨s1, g1, l1, p1, bl1, bv1, lv1, HR1.out, rfl, ?_, HO1.out, by have := HN1.out; omega, by have := HN1.out; omega, by have := HN1.out; omega⟩⟩
          · simp [results, Try.results55, asAddr, r1]
          · exact B7.out.trans (Keeps.below (hK8.out.mono B7.out.size (fun _ h => h)) (by simp))
          · exact HM.out.keeps hK8.out ⟨hml.1, by have := HN1.out; simp; omega⟩ ⟨hml.2.1, by have := HN1.out; simp; omega⟩ ⟨hml.2.2, by have := HN1.out; simp; omega⟩
    · have HPA : Hid (Parsed z ss fs) := Lib.hid ⟨by omega, HALL.out, fun f _ _ he => by rw [List.getElem?_eq_none (by omega)] at he; cases he⟩
      have HBW := Lib.hid (HB.out.trans (HBV.out.mono HB.out.size))
      have HRES := Lib.hid ((Keeps.of_below (S := []) HBV.out).blk K1.out.lt (by simp) K1.out)
      obtain ⟨AF, cF, rfl, hFR⟩ := frs_of_own HROW.out rfl HOK.out
      have HFR := Lib.hid hFR
      clear hFR
      go_wp2_with fail
      refine (snap_read wr AF _ cF fs HFR.out).mono ?_
      rintro r w7 ⟨hb7, hpost⟩
      have RS7 := Lib.hid ((Keeps.of_below (S := []) hb7).blk HRES.out.lt (by simp) HRES.out)
      have B7 := Lib.hid (HBW.out.trans (hb7.mono HBW.out.size))
      clear hb7
      rcases hpost with ⟨hno, rfl⟩ | ⟨s1, g1, l1, p1, bl1, bv1, lv1, hR1, rfl, hM1, hO1, n1, n2, n3⟩
      · have HNO := Lib.hid hno
        clear hno
        go_wp2_with (refine wpList_store_blk rfl 53 (.tmp 6) (.tmp 37) rfl (w.heap.size + 1) 0 #[.int .i64 0, .int .i64 0, .int .i64 0, .pointer none] rfl rfl RS7.out (Nat.le_refl 4) size_snap (by simp [Value.oneCell']) ?_; intro W8 hG8 hK8 hs8)
        have hG := hG8.out
        rw [over_all rfl] at hG
        have r1 : (loadVar 53 ⟨w.heap.size + 1, 0, none⟩).run Try.prog W8 = .ok sn0 W8 := run_loadVar_row _ _ _ _ _ _ _ hG Try.underlying53 rfl size_snap
        refine bodyPost_ret (v := .tuple #[sn0, .int .i64 10]) ?_ rfl ⟨fs, HPA.out, ?_, .inl ⟨HNO.out, rfl⟩⟩
        · simp [results, Try.results55, asAddr, r1]
        · exact B7.out.trans (Keeps.below (hK8.out.mono B7.out.size (fun _ h => h)) (by simp))
      · have HM := Lib.hid hM1
        have HO1 := Lib.hid hO1
        have HR1 := Lib.hid hR1
        have HN1 := Lib.hid (And.intro n1 (And.intro n2 n3))
        clear hM1 hO1 hR1 n1 n2 n3
        go_wp2_with (refine wpList_store_blk rfl 53 (.tmp 6) (.tmp 37) rfl (w.heap.size + 1) 0 (s1.arr p1) rfl rfl RS7.out (Nat.le_refl 4) size_snap (sn_one s1 p1) ?_; intro W8 hG8 hK8 hs8)
        have hG := hG8.out
        rw [over_all (cs := #[.int .i64 0, .int .i64 0, .int .i64 0, .pointer none]) (D := s1.arr p1) rfl] at hG
        have r1 : (loadVar 53 ⟨w.heap.size + 1, 0, none⟩).run Try.prog W8 = .ok (s1.v p1) W8 := run_loadVar_row _ _ _ _ _ _ _ hG Try.underlying53 rfl size_snap
        have hlt := HRES.out.lt
        have hw := HBW.out.size
        have hml := HM.out.lt
        refine bodyPost_ret (v := .tuple #[s1.v p1, .int .i64 0]) ?_ rfl ⟨fs, HPA.out, ?_, .inr ⟨s1, g1, l1, p1, bl1, bv1, lv1, HR1.out, rfl, ?_, HO1.out, by have := HN1.out; omega, by have := HN1.out; omega, by have := HN1.out; omega⟩⟩
        · simp [results, Try.results55, asAddr, r1]
        · exact B7.out.trans (Keeps.below (hK8.out.mono B7.out.size (fun _ h => h)) (by simp))
        · exact HM.out.keeps hK8.out ⟨hml.1, by have := HN1.out; simp; omega⟩ ⟨hml.2.1, by have := HN1.out; simp; omega⟩ ⟨hml.2.2, by have := HN1.out; simp; omega⟩
end Go.Proofs.Ytcgafnmpfdkfoaa
/- Law CkptMoved: what is parsed of sectors that have moved. -/
namespace Go.Proofs.Ytcgafnmpfdkfoaa
open Go.RowKit

theorem G.right_of_holds {g : G} {z o : Int} (h : g.holds z o = true) : g.right = true := by
  unfold G.holds at h
  simp only [Bool.and_eq_true] at h
  exact h.1.1
theorem readR_short {fs : List Fr} (h : fs.length ≤ 1) : readR fs = none := by
  cases hr : readR fs with
  | none => rfl
  | some x =>
    obtain ⟨s, g, l⟩ := x
    obtain ⟨f0, rest, _, _, h1, _, h2⟩ := readR_some hr
    have := (npG_parts (G.right_of_holds h1)).2.1
    omega
theorem parsed_moved {z : Int} {xs : List Int} {fs gs : List Fr} (h : Parsed z (xs :: gs.map sect) fs) (hk : FsOk gs) (h0 : ∀ f, gs[0]? = some f → f.off = 0) : fs.length ≤ 1 := by
  rcases Nat.lt_or_ge 1 fs.length with hl | hl
  · exfalso
    obtain ⟨f, hf⟩ : ∃ f, fs[1]? = some f := ⟨_, List.getElem?_eq_getElem hl⟩
    obtain ⟨⟨f1, f2, _⟩, h2, _, h4⟩ := h.ok 1 f hf
    rw [List.getElem?_cons_succ, List.getElem?_map, Option.map_eq_some_iff] at h2
    obtain ⟨a, ha, hs⟩ := h2
    obtain ⟨k1, k2, _⟩ := hk a (List.mem_of_getElem? ha)
    have := sect_inj k1 f1 k2 f2 hs
    subst this
    have := h0 _ ha
    omega
  · exact hl
theorem parsed_far {z : Int} {fs gs : List Fr} (h : Parsed z (gs.map sect) fs) (hk : FsOk gs) (h0 : ∀ f, gs[0]? = some f → f.zn ≠ z) : fs.length ≤ 1 := by
  cases fs with
  | nil => simp
  | cons f r =>
    exfalso
    obtain ⟨⟨f1, f2, _⟩, h2, h3, _⟩ := h.ok 0 f rfl
    rw [List.getElem?_map, Option.map_eq_some_iff] at h2
    obtain ⟨a, ha, hs⟩ := h2
    obtain ⟨k1, k2, _⟩ := hk a (List.mem_of_getElem? ha)
    have := sect_inj k1 f1 k2 f2 hs
    subst this
    exact h0 _ ha h3
theorem flat64_get {ss : List (List Int)} (hk : ∀ xs ∈ ss, xs.length = 64 ∧ Byt xs) : ∀ (k : Nat) (xs : List Int), ss[k]? = some xs → ∀ j, j < 64 → (ss.flatMap bys)[k * 64 + j]? = (bys xs)[j]? := by
  induction ss with
  | nil => intro k xs h; simp at h
  | cons a r ih =>
    intro k xs h j hj
    have ha : (bys a).length = 64 := by rw [bys_length, Nat.mul_one]; exact (hk a (by simp)).1
    rw [List.flatMap_cons]
    cases k with
    | zero =>
      simp only [List.getElem?_cons_zero, Option.some.injEq] at h
      subst h
      rw [List.getElem?_append_left (by omega), Nat.zero_mul, Nat.zero_add]
    | succ k =>
      rw [List.getElem?_cons_succ] at h
      rw [List.getElem?_append_right (by omega), ha, show (k + 1) * 64 + j - 64 = k * 64 + j by omega]
      exact ih (fun xs hx => hk xs (List.mem_cons_of_mem _ hx)) k xs h j hj
theorem flat64_length {ss : List (List Int)} (hk : ∀ xs ∈ ss, xs.length = 64 ∧ Byt xs) : (ss.flatMap bys).length = ss.length * 64 := by
  induction ss with
  | nil => rfl
  | cons a r ih =>
    rw [List.flatMap_cons, List.length_append, bys_length, Nat.mul_one, (hk a (by simp)).1, ih (fun xs hx => hk xs (List.mem_cons_of_mem _ hx)), List.length_cons]
    omega
theorem secIn_of_row {W : World} {base g n c : Nat} {ss : List (List Int)} (h : W.ownsRow base 89 64 (.slice (some ⟨g, 0, none⟩) n c) n (ss.flatMap bys)) (hn : ss.length = n) (hk : ∀ xs ∈ ss, xs.length = 64 ∧ Byt xs) : SecIn W (some ⟨g, 0, none⟩) n c ss := by
  have hc := own_is' h
  have hlen := flat64_length hk
  refine ⟨hn, hc.1, hc.2, hk, fun _ => ⟨g, 0, rfl, (h.lt _ rfl).2, fun k xs hx j v hv => ?_⟩⟩
  have hkk := (List.getElem?_eq_some_iff.1 hx).1
  have hj := (List.getElem?_eq_some_iff.1 hv).1
  rw [bys_length, Nat.mul_one, (hk xs (List.mem_of_getElem? hx)).1] at hj
  rw [Nat.zero_add, h.cellAt (k * 64 + j) (by omega), flat64_get hk k xs hx j hj]
  exact hv
theorem parse_none (w : World) (z : Int) (A : Option Addr) (n c : Nat) (ss : List (List Int)) (h : SecIn w A n c ss) (h1000 : n ≤ 1000) (hno : ∀ fs, Parsed z ss fs → fs.length ≤ 1) :
    Calls Try.prog 55 #[.agg tabV, .int .i64 z, .slice A n c] w fun r w' => r = .returned (.tuple #[sn0, .int .i64 10]) ∧ Below w.heap.size w w' := by
  refine (ckpt_parse w z A n c ss h h1000).mono ?_
  rintro r w' ⟨fs, hp, hb, h | ⟨s, g, l, _, _, _, _, hr, _⟩⟩
  · exact ⟨h.2, hb⟩
  · rw [readR_short (hno fs hp)] at hr; cases hr
theorem flatS_one (fs : List Fr) : ∀ u ∈ flatS fs, u.oneCell' = true := by
  intro u hu
  obtain ⟨f, _, hf⟩ := List.mem_flatMap.1 hu
  exact bys_one _ u hf
theorem frames_first (s : Sn) (g : G) (l : List E) (z : Int) : ∀ f, (frames s g l z)[0]? = some f → f.off = 0 ∧ f.zn = z := by
  intro f hf
  rw [frames_get _ _ _ _ _ (by unfold nparts; omega)] at hf
  simp only [Option.some.injEq] at hf
  rw [← hf]
  exact ⟨rfl, rfl⟩
end Go.Proofs.Ytcgafnmpfdkfoaa
/- A region that draws its order, by an invariant over what has been done: each operation is walked once, from whatever state the invariant allows. Over any program. -/
namespace Go.Proofs.Ytcgafnmpfdkfoaa
open Go.RowKit
variable {P : Program} {ops : Array Oper} {md : Region.Mode}

/-- The post Q, but at a normal end I. -/
def Qn (Q : Exit → Act → World → Prop) (I : Act → World → Prop) : Exit → Act → World → Prop
  | .normal, a, w => I a w
  | e, a, w => Q e a w
theorem upon_qn {o : Oper} {a : Act} {K : Act → World → Prop} {Q : Exit → Act → World → Prop} {I : Act → World → Prop} {r : Result Next} (h : o.upon P a K (Qn Q I) r) : o.upon P a K Q r := by
  cases r with
  | ok n w' => cases n <;> exact h
  | halt x w' => cases x <;> exact h
/-- One more is done. -/
def upd (L : Nat → Bool) (i : Nat) : Nat → Bool := fun k => if k = i then true else L k
theorem wpOp_of_list {i : Nat} {o : Oper} {a : Act} {w : World} {Q : Exit → Act → World → Prop} {I : Act → World → Prop} (ho : ops[i]? = some o) (h : wpList P ops (Qn Q I) [o] a w) : wpOp P ops Q i I a w := by
  unfold wpOp
  simp only [ho]
  unfold wpList at h
  split
  · rename_i hw
    rw [if_pos hw] at h
    rcases h with h | ⟨h, a', w', h'⟩
    · exact .inl (upon_qn h)
    · exact .inr ⟨h, a', w', h'⟩
  · rename_i hw
    rw [if_neg hw] at h
    exact h
/-- How many are still to do. -/
def left (l : List Bool) : Nat := l.countP (fun b => !b)
theorem left_set {l : List Bool} {i : Nat} (h : l[i]? = some false) : left (l.set i true) + 1 = left l := by
  induction l generalizing i with
  | nil => simp at h
  | cons b r ih =>
    cases i with
    | zero =>
      simp only [List.getElem?_cons_zero, Option.some.injEq] at h
      subst h
      simp [left]
    | succ i =>
      rw [List.getElem?_cons_succ] at h
      have := ih h
      simp only [left, List.set_cons_succ, List.countP_cons] at this ⊢
      omega
theorem left_zero {l : List Bool} (h : left l = 0) (i : Nat) : l[i]? ≠ some false := by
  intro hc
  have := left_set hc
  omega
theorem getD_some {A : Array Bool} {i : Nat} (h : A.getD i true = false) : A.toList[i]? = some false := by
  rw [Array.getElem?_toList]
  simp only [Array.getD_eq_getD_getElem?] at h
  cases hc : A[i]? with
  | none => rw [hc] at h; cases h
  | some b => rw [hc] at h; simp at h; rw [h]
theorem region_inv_go {Q : Exit → Act → World → Prop} (I : (Nat → Bool) → Act → World → Prop)
    (hstep : ∀ i o, ops[i]? = some o → ∀ (L : Nat → Bool) a W, I L a W → L i = false → (∀ e ∈ o.after, Region.binds md e = true → L e.on = true) → wpList P ops (Qn Q (I (upd L i))) [o] a W)
    (hend : ∀ (L : Nat → Bool) a W, I L a W → (∀ i o, ops[i]? = some o → L i = false → ∃ e ∈ o.after, Region.binds md e = true ∧ L e.on = false) → Q .normal a W) :
    ∀ (f : Nat) (listed : Array Bool) (a : Act) (W : World), listed.size = ops.size → left listed.toList = f → I (fun k => listed.getD k false) a W → wpAny P md ops Q f listed a W := by
  have done : ∀ (listed : Array Bool) (a : Act) (W : World), listed.size = ops.size → I (fun k => listed.getD k false) a W → Region.ready md ops listed = [] → Q .normal a W := by
    intro listed a W hs hI h0
    refine hend _ a W hI fun i o ho hL => ?_
    have hi : i < listed.size := by rw [hs]; exact (Array.getElem?_eq_some_iff.1 ho).1
    have hun : listed.getD i true = false := by
      simp only [Array.getD_eq_getD_getElem?, Array.getElem?_eq_getElem hi, Option.getD_some] at hL ⊢
      exact hL
    have hno : i ∉ Region.ready md ops listed := by rw [h0]; simp
    rw [mem_ready] at hno
    refine Classical.byContradiction fun hc => hno ⟨hun, o, ho, fun e he hb => ?_⟩
    cases hx : listed.getD e.on false with
    | true => rfl
    | false => exact absurd ⟨e, he, hb, hx⟩ hc
  intro f
  induction f with
  | zero =>
    intro listed a W hs hl hI
    have h0 : Region.ready md ops listed = [] := by
      refine List.eq_nil_iff_forall_not_mem.2 fun i hi => ?_
      exact left_zero hl i (getD_some (mem_ready.1 hi).1)
    exact ⟨h0, done listed a W hs hI h0⟩
  | succ f ih =>
    intro listed a W hs hl hI
    refine ⟨fun h0 => done listed a W hs hI h0, fun i hi => ?_⟩
    obtain ⟨hun, o, ho, hall⟩ := mem_ready.1 hi
    have hun' : listed.getD i false = false := getD_both hun
    have hlt : i < listed.size := by rw [hs]; exact (Array.getElem?_eq_some_iff.1 ho).1
    refine wpOp_mono (fun a' W' h' => ih (listed.setIfInBounds i true) a' W' (by simpa using hs) ?_ ?_) (wpOp_of_list ho (hstep i o ho _ a W hI hun' hall))
    · have h1 := left_set (getD_some hun)
      rw [Array.toList_setIfInBounds]
      omega
    · have e : (fun k => (listed.setIfInBounds i true).getD k false) = upd (fun k => listed.getD k false) i := by
        funext k
        unfold upd
        split
        · rename_i hk; subst hk; simp [Array.getD_eq_getD_getElem?, hlt]
        · rename_i hk; rw [getD_set_ne false (Ne.symm hk)]
      rw [e]
      exact h'
theorem region_inv {id : Nat} {Q : Exit → Act → World → Prop} {a : Act} {w : World} (I : (Nat → Bool) → Act → World → Prop) (hm : P.follows .mixedOrders = true)
    (h0 : I (fun _ => false) a w.drew)
    (hstep : ∀ i o, ops[i]? = some o → ∀ (L : Nat → Bool) a W, I L a W → L i = false → (∀ e ∈ o.after, Region.binds .any e = true → L e.on = true) → wpList P ops (Qn Q (I (upd L i))) [o] a W)
    (hend : ∀ (L : Nat → Bool) a W, I L a W → (∀ i o, ops[i]? = some o → L i = false → ∃ e ∈ o.after, Region.binds .any e = true ∧ L e.on = false) → Q .normal a W) :
    (Code.region id ops true).wp P Q a w := by
  refine wp_region_any hm ?_
  refine region_inv_go I hstep hend _ _ a _ (by simp) ?_ ?_
  · simp only [left, Array.toList_replicate, List.countP_replicate]
    rfl
  · have e : (fun k => (Array.replicate ops.size false).getD k false) = fun _ => false := by
      funext k
      simp only [Array.getD_eq_getD_getElem?]
      rw [Array.getElem?_replicate]
      split <;> rfl
    rw [e]
    exact h0
/-- Each operation waits for earlier ones alone. -/
def upB (ops : Array Oper) : Bool := (List.range ops.size).all fun i => match ops[i]? with
  | none => true
  | some o => o.after.all fun e => !Region.binds .any e || decide (e.on < i)
theorem all_done {L : Nat → Bool} (hu : upB ops = true) (h : ∀ i o, ops[i]? = some o → L i = false → ∃ e ∈ o.after, Region.binds .any e = true ∧ L e.on = false) : ∀ n i, i < n → i < ops.size → L i = true := by
  intro n
  induction n with
  | zero => intro i hi; omega
  | succ n ih =>
    intro i hi hs
    cases hL : L i with
    | true => rfl
    | false =>
      obtain ⟨e, he, hb, hf⟩ := h i _ (Array.getElem?_eq_getElem hs) hL
      have h1 := List.all_eq_true.1 hu i (by simpa using hs)
      rw [Array.getElem?_eq_getElem hs] at h1
      have h2 := Array.all_eq_true_iff_forall_mem.1 h1 e he
      rw [hb] at h2
      have h3 : e.on < i := by simpa using h2
      rw [ih e.on (by omega) (by omega)] at hf
      cases hf
/-- Slots laid over a state. -/
def ins (t : Array Value) (v : Nat → Value) : List Nat → Array Value
  | [] => t
  | k :: ks => (ins t v ks).setIfInBounds k (v k)
theorem ins_same (t : Array Value) (ks : List Nat) : ins t (fun k => t.getD k undef) ks = t := by
  induction ks with
  | nil => rfl
  | cons k ks ih =>
    unfold ins
    rw [ih]
    apply Array.ext_getElem?
    intro j
    rw [Array.getElem?_setIfInBounds]
    split
    · rename_i h
      subst h
      split
      · rename_i h2
        rw [Array.getElem?_eq_getElem h2]
        simp [Array.getInternal]
      · rename_i h2
        rw [Array.getElem?_eq_none (by omega)]
    · rfl
theorem region_inv_v {id : Nat} {Q : Exit → Act → World → Prop} {a : Act} {w : World} (ks : List Nat) (J : (Nat → Bool) → (Nat → Value) → World → Prop) (hm : P.follows .mixedOrders = true) (hu : upB ops = true)
    (h0 : J (fun _ => false) (fun k => a.tmps.getD k undef) w.drew)
    (hstep : ∀ i o, ops[i]? = some o → ∀ (L : Nat → Bool) (v : Nat → Value) W, J L v W → L i = false → (∀ e ∈ o.after, Region.binds .any e = true → L e.on = true) →
      ∀ K : Act → World → Prop, (∀ v' W', J (upd L i) v' W' → K { a with tmps := ins a.tmps v' ks } W') → wpList P ops (Qn Q K) [o] { a with tmps := ins a.tmps v ks } W)
    (hend : ∀ (L : Nat → Bool) (v : Nat → Value) W, J L v W → (∀ i, i < ops.size → L i = true) → Q .normal { a with tmps := ins a.tmps v ks } W) :
    (Code.region id ops true).wp P Q a w := by
  refine region_inv (fun L a' W => ∃ v, a' = { a with tmps := ins a.tmps v ks } ∧ J L v W) hm ⟨_, ?_, h0⟩ ?_ ?_
  · rw [ins_same]
  · rintro i o ho L _ W ⟨v, rfl, hJ⟩ hL hall
    exact hstep i o ho L v W hJ hL hall _ fun v' W' h => ⟨v', rfl, h⟩
  · rintro L _ W ⟨v, rfl, hJ⟩ hall
    exact hend L v W hJ fun i hi => all_done hu hall (i + 1) i (by omega) hi
/-- One slot anew. -/
def sv (v : Nat → Value) (s : Nat) (x : Value) : Nat → Value := fun k => if k = s then x else v k
theorem upd_of {L : Nat → Bool} {i k : Nat} (h : upd L i k = true) (hk : k ≠ i) : L k = true := by
  unfold upd at h
  rwa [if_neg hk] at h
theorem upd_no {L : Nat → Bool} {i k : Nat} (h : upd L i k = false) : L k = false := by
  unfold upd at h
  split at h
  · cases h
  · exact h
theorem upd_at (L : Nat → Bool) (i : Nat) : upd L i i = true := by unfold upd; rw [if_pos rfl]
end Go.Proofs.Ytcgafnmpfdkfoaa
/- Law CkptMoved: the walk. -/
namespace Go.Proofs.Ytcgafnmpfdkfoaa
open Go.RowKit

/-- What is done of region 10. -/
structure JM (w7 : World) (D T : Array Value) (lX : Value) (n : Nat) (ss : List (List Int)) (z : Int) (L : Nat → Bool) (v : Nat → Value) (W : World) : Prop where
  b : Below w7.heap.size w7 W
  e0 : L 0 = true → v 58 = .agg T
  e1 : L 1 = true → v 59 = .int .i64 z
  e2 : L 2 = true → v 60 = .agg D
  e3 : L 3 = true → L 5 = false → ∃ b, v 61 = .slice (some ⟨b, 0, none⟩) 1 1 ∧ Blk W b 89 D ∧ w7.heap.size ≤ b ∧ (L 10 = true → v 21 ≠ .pointer (some ⟨b, 0, none⟩))
  e4 : L 4 = true → v 62 = lX
  e5 : L 5 = true → L 6 = false → ∃ g c, v 63 = .slice (some ⟨g, 0, none⟩) (1 + n) c ∧ SecIn W (some ⟨g, 0, none⟩) (1 + n) c ss
  e6 : L 6 = true → v 64 = .tuple #[sn0, .int .i64 10]
  e7 : L 7 = true → v 57 = .tuple #[sn0, .int .i64 10]
  e8 : L 8 = true → v 65 = sn0
  e9 : L 9 = true → v 66 = .int .i64 10
  e10 : L 10 = true → ∃ b, v 21 = .pointer (some ⟨b, 0, none⟩) ∧ w7.heap.size ≤ b ∧ b < W.heap.size ∧ (L 11 = false → Blk W b 53 #[.int .i64 0, .int .i64 0, .int .i64 0, .pointer none])
  e12 : L 12 = true → v 22 = .int .i64 10
theorem JM.grow {w7 W W' : World} {D T : Array Value} {lX : Value} {n : Nat} {ss : List (List Int)} {z : Int} {L : Nat → Bool} {v : Nat → Value} (h : JM w7 D T lX n ss z L v W) (k : Below W.heap.size W W') : JM w7 D T lX n ss z L v W' :=
  ⟨h.b.trans (k.mono h.b.size), h.e0, h.e1, h.e2, fun h3 h5 => (by obtain ⟨b, a1, a2, a3, a4⟩ := h.e3 h3 h5; exact ⟨b, a1, (Keeps.of_below (S := []) k).blk a2.lt (by simp) a2, a3, a4⟩), h.e4,
    fun h5 h6 => (by obtain ⟨g, c, a1, a2⟩ := h.e5 h5 h6; exact ⟨g, c, a1, a2.grow k⟩), h.e6, h.e7, h.e8, h.e9,
    fun h10 => (by obtain ⟨b, a1, a2, a3, a4⟩ := h.e10 h10; exact ⟨b, a1, a2, Nat.lt_of_lt_of_le a3 k.size, fun h => (Keeps.of_below (S := []) k).blk (a4 h).lt (by simp) (a4 h)⟩), h.e12⟩
set_option maxRecDepth 100000 in
set_option maxHeartbeats 2000000 in
theorem moved_walk (w : World) (g : G) (A : Option Addr) (n c : Nat) (ops : List Op11) (h : OpsAt w A n c ops) (gen ep nx z : Int) (cs : List Int) (hcl : cs.length = 64) (hcb : Byt cs) :
    Calls Try.prog 15 #[g.v, .slice A n c, .int .i64 gen, .int .i64 ep, .int .i64 nx, .int .i64 z, .agg (bys cs).toArray] w fun r w' => r = .returned (.bool true) ∧ Below w.heap.size w w' := by
  obtain ⟨s, hs⟩ : ∃ s : Sn, s = ⟨gen, ep, nx⟩ := ⟨_, rfl⟩
  have hsg : gen = s.gen := by rw [hs]
  have hse : ep = s.ep := by rw [hs]
  have hsn : nx = s.nx := by rw [hs]
  subst hsg hse hsn
  clear hs
  obtain ⟨T, hT⟩ : ∃ T : Array Value, Hid (tabV = T) := ⟨_, Lib.hid rfl⟩
  have hTs : T.size = 256 := by rw [← hT.out]; exact tabV_size
  obtain ⟨D, hD⟩ : ∃ D : Array Value, Hid ((bys cs).toArray = D) := ⟨_, Lib.hid rfl⟩
  rw [hD.out]
  have hDs : D.size = 64 := by rw [← hD.out, List.size_toArray, bys_length, Nat.mul_one, hcl]
  have hDi : (Try.prog.info? 89).map (·.size) = some D.size := by rw [hDs]; exact size_sector
  have hD1 : D.all (·.oneCell') = true := by rw [← hD.out]; exact all_oneCell_toArray (bys_one _)
  have hszT : (Try.prog.info? 83).map (·.size) = some T.size := by rw [hTs]; exact size_table
  obtain ⟨W0, hW0⟩ : ∃ W0, (w.alloc g.box).alloc (.cells D 89) = W0 := ⟨_, rfl⟩
  have k0 : Blk W0 w.heap.size 23 g.arr := by rw [← hW0]; exact (Blk.newAt rfl).alloc _
  have k1 : Blk W0 (w.heap.size + 1) 89 D := by rw [← hW0]; exact Blk.newAt (by simp)
  have U0 : Below w.heap.size w W0 := by rw [← hW0]; exact (below_box _ _).alloc (by simp) _
  have HU := Lib.hid U0
  have K0 := Lib.hid k0
  have KD := Lib.hid k1
  have HO := Lib.hid h
  have HDI := Lib.hid hDi
  have HD1 := Lib.hid hD1
  have HDS := Lib.hid hDs
  have HTS := Lib.hid hTs
  have HSZT := Lib.hid hszT
  have HCS := Lib.hid (And.intro hcl hcb)
  have HST : Hid (∀ W : World, (storeCells ⟨W.heap.size, 0, none⟩ T.toList 0).run Try.prog (W.alloc (.cells Try.zeroCells83 83)) = .ok () (W.alloc (.cells T 83))) := Lib.hid (by rw [← hT.out]; exact store_table)
  clear h U0 k0 k1 hDi hD1 hDs hTs hszT hcl hcb
  go_enter Try.func15, Try.ntmps15
  go_wp2_with fail
  clear hW0
  refine (anchor13 W0).mono ?_
  rintro r w1 ⟨rfl, hb1⟩
  have K1 := Lib.hid ((Keeps.of_below (S := []) hb1).blk K0.out.lt (by simp) K0.out)
  have KD1 := Lib.hid ((Keeps.of_below (S := []) hb1).blk KD.out.lt (by simp) KD.out)
  have U1 : Hid (Below w.heap.size w w1) := Lib.hid (HU.out.trans (hb1.mono HU.out.size))
  obtain ⟨⟨x0, x1⟩, ⟨x2, x3⟩, x4, x5⟩ := K1.out.gcells
  clear hb1
  go_wp2_with fail
  by_cases hbad : g.right = false ∨ 60 < n
  · refine (made13_bad w1 g A n c _ _ _ hbad).mono ?_
    rintro r w2 ⟨rfl, hb2⟩
    have U2 : Hid (Below w.heap.size w w2) := Lib.hid (U1.out.trans (hb2.mono U1.out.size))
    clear hb2 x0 x1 x2 x3 x4 x5 hbad
    go_wp2
    go_ret
    exact ⟨rfl, (U2.out.alloc U2.out.size _).alloc (by have := U2.out.size; simp; omega) _⟩
  · have hr : g.right = true := by cases hr : g.right with | true => rfl | false => exact absurd (.inl hr) hbad
    refine (made13_yes w1 g A n c ops (HO.out.up U1.out) s hr (by omega)).mono ?_
    rintro r w2 ⟨p, bl, bv, lv, rb, rc, rfl, hM, hOk, _, _, hb2⟩
    obtain ⟨l, hl⟩ : ∃ l, playL g ops = l := ⟨_, rfl⟩
    rw [hl] at hM hOk ⊢
    obtain ⟨t, ht⟩ : ∃ t, s.right l = t := ⟨_, rfl⟩
    rw [ht]
    obtain ⟨V2, hV2⟩ : ∃ V2, (w2.alloc (s.box p)).alloc (.cells (refArr s g (.slice (some ⟨rb, 0, none⟩) l.length rc)) 55) = V2 := ⟨_, rfl⟩
    have b3 : Below w2.heap.size w2 V2 := by rw [← hV2]; exact (below_box _ _).alloc (by simp) _
    have A3 : Hid (UnAt w g l lv s p bl bv w2.heap.size V2) := Lib.hid ⟨hM.grow b3, by rw [← hV2]; exact (Blk.newAt rfl).alloc _, (Keeps.of_below (S := []) (hb2.trans (b3.mono hb2.size))).blk K1.out.lt (by simp) K1.out, U1.out.trans ((hb2.trans (b3.mono hb2.size)).mono U1.out.size)⟩
    have KD3 := Lib.hid ((Keeps.of_below (S := []) (hb2.trans (b3.mono hb2.size))).blk KD1.out.lt (by simp) KD1.out)
    have OA := Lib.hid hOk
    have HR := Lib.hid hr
    have HT := Lib.hid ht
    clear hM hOk hb2 b3 hl ht x0 x1 x2 x3 x4 x5 hbad hr
    obtain ⟨⟨x0, x1⟩, ⟨x2, x3⟩, x4, x5⟩ := A3.out.x.gcells
    cases t
    · go_wp2
      go_ret
      exact ⟨rfl, A3.out.u⟩
    cases hh : g.holds z 0 with
    | false =>
      go_wp2_with fail
      clear hV2
      refine (geom_holds_b g z 0 V2 _ hh).mono ?_
      rintro r w4 ⟨rfl, hb4⟩
      have U4 := Lib.hid (A3.out.u.trans (hb4.mono A3.out.u.size))
      clear hb4 x0 x1 x2 x3 x4 x5
      go_wp2
      go_ret
      exact ⟨rfl, U4.out⟩
    | true =>
      go_wp2_with fail
      clear hV2
      refine (geom_holds_b g z 0 V2 _ hh).mono ?_
      rintro r w4 ⟨rfl, hb4⟩
      have A4 := Lib.hid (A3.out.grow hb4)
      have KD4 := Lib.hid ((Keeps.of_below (S := []) hb4).blk KD3.out.lt (by simp) KD3.out)
      have HH := Lib.hid hh
      have hzr : Hid (0 ≤ z ∧ z < 512) := Lib.hid (by have h1 := G.holds_range hh; have h2 := (G.small_of_right HR.out).all_le; omega)
      clear hb4 x0 x1 x2 x3 x4 x5 A3 hh
      go_wp2_with fail
      refine (crc_new w4).mono ?_
      rintro r w6 ⟨rfl, hb6⟩
      rw [hT.out]
      obtain ⟨V6, hV6⟩ : ∃ V, w6.alloc (.cells T 83) = V := ⟨_, rfl⟩
      have b6 : Below w6.heap.size w6 V6 := by rw [← hV6]; exact below_box _ _
      have A6 := Lib.hid (A4.out.grow (hb6.trans (b6.mono hb6.size)))
      have KD6 := Lib.hid ((Keeps.of_below (S := []) (hb6.trans (b6.mono hb6.size))).blk KD4.out.lt (by simp) KD4.out)
      have T6 : Hid (Blk V6 w6.heap.size 83 T) := Lib.hid (by rw [← hV6]; exact Blk.newAt rfl)
      have hst := HST.out
      have hts := HTS.out
      have SEC : Hid (Calls Try.prog 52 #[.agg T, s.v p, .int .i64 z] V6 (SecsPost V6 (frames s g l z))) := Lib.hid (by rw [← hT.out]; exact sectors_yes V6 p bl bv g l lv s A6.out.m OA.out (OA.out.sn HT.out) z HH.out)
      clear hb6 b6
      obtain ⟨⟨y0, y1⟩, y2, y3⟩ := A6.out.y.scells
      have yl := A6.out.y.lt
      go_wp2_with (refine wpList_load_blk rfl 83 (.tmp 18) rfl w6.heap.size 0 rfl T6.out T (row_whole T) _ Try.underlying83 rfl HSZT.out ?_)
      clear hV6 hst hts
      refine SEC.out.mono ?_
      rintro r w7 ⟨v7, rfl, hown7, hb7⟩
      obtain ⟨fx, hfx⟩ : ∃ fx, Hid (frames s g l z = fx) := ⟨_, Lib.hid rfl⟩
      have okX : Hid (FsOk fx) := Lib.hid (by rw [← hfx.out]; exact frames_fsok OA.out (OA.out.sn HT.out) z HH.out)
      have hx199 : 1 ≤ fx.length ∧ fx.length ≤ 999 := by
        have h1 := OA.out.len
        have h2 := (G.small_of_right HR.out).B1
        rw [← hfx.out, frames_length]; unfold nparts; omega
      obtain ⟨hx1, hx2⟩ := hx199
      have HF1 : Hid (∀ f, fx[0]? = some f → f.off = 0 ∧ f.zn = z) := Lib.hid (by rw [← hfx.out]; exact frames_first s g l z)
      rw [hfx.out] at hown7
      obtain ⟨m, hm⟩ : ∃ m, fx.length = m + 1 := ⟨fx.length - 1, by omega⟩
      obtain ⟨gX, cX, rfl⟩ := own_succ (hm ▸ hown7)
      rw [← hm] at *
      have HOWN := Lib.hid hown7
      clear hm
      have A7 := Lib.hid (A6.out.grow hb7)
      have KD7 := Lib.hid ((Keeps.of_below (S := []) hb7).blk KD6.out.lt (by simp) KD6.out)
      have T7 := Lib.hid ((Keeps.of_below (S := []) hb7).blk T6.out.lt (by simp) T6.out)
      clear hb7 hown7 y0 y1 y2 y3 yl A6 T6 SEC
      go_wp2_with fail
      obtain ⟨i0, hi0, hz0, hz1, hz2⟩ := info_parts info_sector
      have hTR : Hid (∀ W, Below w7.heap.size w7 W → W.rangeAt w6.heap.size 0 T.toList ∧ W.rangeAt (w.heap.size + 1) 0 D.toList) := Lib.hid fun W k => ⟨fun j v hv => by
        rw [Nat.zero_add, k.cell (p := ⟨w6.heap.size, j, none⟩) T7.out.lt, T7.out.cell]
        simpa using hv, fun j v hv => by
        rw [Nat.zero_add, k.cell (p := ⟨w.heap.size + 1, j, none⟩) KD7.out.lt, KD7.out.cell]
        simpa using hv⟩
      have hsf := sec_fold D HDS.out
      have TT : Hid (∀ W, Below w7.heap.size w7 W → Blk W w6.heap.size 83 T) := Lib.hid fun W k => (Keeps.of_below (S := []) k).blk T7.out.lt (by simp) T7.out
      have DD : Hid (∀ W, Below w7.heap.size w7 W → Blk W (w.heap.size + 1) 89 D) := Lib.hid fun W k => (Keeps.of_below (S := []) k).blk KD7.out.lt (by simp) KD7.out
      have XX : Hid (∀ W, Below w7.heap.size w7 W → ∀ j u, (flatS fx)[j]? = some u → W.cell? ((⟨gX, 0, none⟩ : Addr).add j) = some u) := Lib.hid fun W k j u hu => by
        have hx := own_grow' HOWN.out k
        have hj := (List.getElem?_eq_some_iff.1 hu).1
        rw [add_at, Nat.zero_add, hx.cellAt j (by rw [← hx.1]; exact hj)]
        exact hu
      have HSS : Hid (∀ xs ∈ cs :: fx.map sect, xs.length = 64 ∧ Byt xs) := Lib.hid fun xs hx => by
        rcases List.mem_cons.1 hx with rfl | hx
        · exact HCS.out
        · obtain ⟨f, hf, rfl⟩ := List.mem_map.1 hx
          exact ⟨sect_length (okX.out f hf).2.1, sect_byt (okX.out f hf).2.2⟩
      have PAR : Hid (∀ W g c, SecIn W (some ⟨g, 0, none⟩) (1 + fx.length) c (cs :: fx.map sect) → Calls Try.prog 55 #[.agg T, .int .i64 z, .slice (some ⟨g, 0, none⟩) (1 + fx.length) c] W fun r w' => r = .returned (.tuple #[sn0, .int .i64 10]) ∧ Below W.heap.size W w') := Lib.hid fun W g c hS => by
        rw [← hT.out]
        exact parse_none W z _ _ c _ hS (by omega) fun fs hp => parsed_moved hp okX.out fun f hf => (HF1.out f hf).1
      obtain ⟨i0, hi0, hz0, hz1, hz2⟩ := info_parts info_sector
      have hx3 : Hid (1 ≤ fx.length ∧ fx.length ≤ 999) := Lib.hid ⟨hx1, hx2⟩
      refine region_inv_v [57, 58, 59, 60, 61, 62, 63, 64, 65, 66, 21, 22] (JM w7 D T (.slice (some ⟨gX, 0, none⟩) fx.length cX) fx.length (cs :: fx.map sect) z) (by kernel_rfl) (by kernel_rfl) ?_ ?_ ?_
      · exact ⟨below_drew (Below.refl _ _), nofun, nofun, nofun, nofun, nofun, nofun, nofun, nofun, nofun, nofun, nofun, nofun⟩
      · intro i o ho L v W hJ hL hall K hK
        have HJ := Lib.hid hJ
        have HW := Lib.hid hJ.b
        clear hJ
        simp only [ins, List.setIfInBounds_toArray, List.set_cons_zero, List.set_cons_succ] at hK ⊢
        rcases i with _ | _ | _ | _ | _ | _ | _ | _ | _ | _ | _ | _ | _ | i
        all_goals simp only [List.getElem?_toArray, List.getElem?_cons_zero, List.getElem?_cons_succ, List.getElem?_nil, Option.some.injEq, reduceCtorEq] at ho
        all_goals try subst ho
        -- CASES
        · -- operation 0
          go_wp2_with (refine wpList_load_blk rfl 83 (.tmp 18) rfl w6.heap.size 0 rfl (TT.out W HW.out) T (row_whole T) _ Try.underlying83 rfl HSZT.out ?_)
          show K _ _
          exact hK (sv v 58 (.agg T)) _ ⟨HJ.out.b, fun _ => rfl, fun h => HJ.out.e1 (upd_of h (by decide)), fun h => HJ.out.e2 (upd_of h (by decide)), fun h3 h5 => (by obtain ⟨b, a1, a2, a3, a4⟩ := HJ.out.e3 (upd_of h3 (by decide)) (upd_no h5); exact ⟨b, a1, a2, a3, fun h => a4 (upd_of h (by decide))⟩), fun h => HJ.out.e4 (upd_of h (by decide)), fun h5 h6 => HJ.out.e5 (upd_of h5 (by decide)) (upd_no h6), fun h => HJ.out.e6 (upd_of h (by decide)), fun h => HJ.out.e7 (upd_of h (by decide)), fun h => HJ.out.e8 (upd_of h (by decide)), fun h => HJ.out.e9 (upd_of h (by decide)), fun h => (by obtain ⟨b, a1, a2, a3, a4⟩ := HJ.out.e10 (upd_of h (by decide)); exact ⟨b, a1, a2, a3, fun h => a4 (upd_no h)⟩), fun h => HJ.out.e12 (upd_of h (by decide))⟩
        · -- operation 1
          go_wp2
          show K _ _
          exact hK (sv v 59 (.int .i64 z)) _ ⟨HJ.out.b, fun h => HJ.out.e0 (upd_of h (by decide)), fun _ => rfl, fun h => HJ.out.e2 (upd_of h (by decide)), fun h3 h5 => (by obtain ⟨b, a1, a2, a3, a4⟩ := HJ.out.e3 (upd_of h3 (by decide)) (upd_no h5); exact ⟨b, a1, a2, a3, fun h => a4 (upd_of h (by decide))⟩), fun h => HJ.out.e4 (upd_of h (by decide)), fun h5 h6 => HJ.out.e5 (upd_of h5 (by decide)) (upd_no h6), fun h => HJ.out.e6 (upd_of h (by decide)), fun h => HJ.out.e7 (upd_of h (by decide)), fun h => HJ.out.e8 (upd_of h (by decide)), fun h => HJ.out.e9 (upd_of h (by decide)), fun h => (by obtain ⟨b, a1, a2, a3, a4⟩ := HJ.out.e10 (upd_of h (by decide)); exact ⟨b, a1, a2, a3, fun h => a4 (upd_no h)⟩), fun h => HJ.out.e12 (upd_of h (by decide))⟩
        · -- operation 2
          go_wp2_with (refine wpList_load_blk rfl 89 (.tmp 13) rfl (w.heap.size + 1) 0 rfl (DD.out W HW.out) D (row_whole D) _ Try.underlying89 rfl HDI.out ?_)
          show K _ _
          exact hK (sv v 60 (.agg D)) _ ⟨HJ.out.b, fun h => HJ.out.e0 (upd_of h (by decide)), fun h => HJ.out.e1 (upd_of h (by decide)), fun _ => rfl, fun h3 h5 => (by obtain ⟨b, a1, a2, a3, a4⟩ := HJ.out.e3 (upd_of h3 (by decide)) (upd_no h5); exact ⟨b, a1, a2, a3, fun h => a4 (upd_of h (by decide))⟩), fun h => HJ.out.e4 (upd_of h (by decide)), fun h5 h6 => HJ.out.e5 (upd_of h5 (by decide)) (upd_no h6), fun h => HJ.out.e6 (upd_of h (by decide)), fun h => HJ.out.e7 (upd_of h (by decide)), fun h => HJ.out.e8 (upd_of h (by decide)), fun h => HJ.out.e9 (upd_of h (by decide)), fun h => (by obtain ⟨b, a1, a2, a3, a4⟩ := HJ.out.e10 (upd_of h (by decide)); exact ⟨b, a1, a2, a3, fun h => a4 (upd_no h)⟩), fun h => HJ.out.e12 (upd_of h (by decide))⟩
        · -- operation 3
          rw [HJ.out.e2 (hall ⟨2, .data⟩ (by simp) rfl)]
          have hds := HDS.out
          have k3 : Below W.heap.size W (W.alloc (.cells D 89)) := below_box _ _
          have HJ2 := Lib.hid (HJ.out.grow k3)
          clear k3
          go_wp2
          show K _ _
          exact hK (sv (sv v 60 (.agg D)) 61 (.slice (some ⟨W.heap.size, 0, none⟩) 1 1)) _ ⟨HJ2.out.b, fun h => HJ2.out.e0 (upd_of h (by decide)), fun h => HJ2.out.e1 (upd_of h (by decide)), fun _ => rfl, fun _ _ => ⟨W.heap.size, rfl, Blk.newAt rfl, HW.out.size, fun h e => (by obtain ⟨b, a1, _, a3, _⟩ := HJ.out.e10 (upd_of h (by decide)); have e2 : v 21 = .pointer (some ⟨W.heap.size, 0, none⟩) := e; rw [a1] at e2; injection e2 with e2; injection e2 with e2; injection e2 with e2; omega)⟩, fun h => HJ2.out.e4 (upd_of h (by decide)), fun h5 h6 => HJ2.out.e5 (upd_of h5 (by decide)) (upd_no h6), fun h => HJ2.out.e6 (upd_of h (by decide)), fun h => HJ2.out.e7 (upd_of h (by decide)), fun h => HJ2.out.e8 (upd_of h (by decide)), fun h => HJ2.out.e9 (upd_of h (by decide)), fun h => (by obtain ⟨b, a1, a2, a3, a4⟩ := HJ2.out.e10 (upd_of h (by decide)); exact ⟨b, a1, a2, a3, fun h => a4 (upd_no h)⟩), fun h => HJ2.out.e12 (upd_of h (by decide))⟩
        · -- operation 4
          go_wp2
          show K _ _
          exact hK (sv v 62 (.slice (some ⟨gX, 0, none⟩) fx.length cX)) _ ⟨HJ.out.b, fun h => HJ.out.e0 (upd_of h (by decide)), fun h => HJ.out.e1 (upd_of h (by decide)), fun h => HJ.out.e2 (upd_of h (by decide)), fun h3 h5 => (by obtain ⟨b, a1, a2, a3, a4⟩ := HJ.out.e3 (upd_of h3 (by decide)) (upd_no h5); exact ⟨b, a1, a2, a3, fun h => a4 (upd_of h (by decide))⟩), fun _ => rfl, fun h5 h6 => HJ.out.e5 (upd_of h5 (by decide)) (upd_no h6), fun h => HJ.out.e6 (upd_of h (by decide)), fun h => HJ.out.e7 (upd_of h (by decide)), fun h => HJ.out.e8 (upd_of h (by decide)), fun h => HJ.out.e9 (upd_of h (by decide)), fun h => (by obtain ⟨b, a1, a2, a3, a4⟩ := HJ.out.e10 (upd_of h (by decide)); exact ⟨b, a1, a2, a3, fun h => a4 (upd_no h)⟩), fun h => HJ.out.e12 (upd_of h (by decide))⟩
        · -- operation 5
          obtain ⟨b, a1, a2, a3, a4⟩ := HJ.out.e3 (hall ⟨3, .data⟩ (by simp) rfl) hL
          rw [a1, HJ.out.e4 (hall ⟨4, .data⟩ (by simp) rfl)]
          have hblt := a2.lt
          have hds := HDS.out
          have A4 := Lib.hid a4
          have OW : Hid (W.ownsRow w7.heap.size 89 64 (.slice (some ⟨b, 0, none⟩) 1 1) 1 D.toList) := Lib.hid (own_blk a2 a3 (Nat.le_refl _) (by unfold maxLen; omega) (by rw [hds]) (by rw [Array.length_toList, hds]) (List.take_of_length_le (by rw [Array.length_toList, hds]; exact Nat.le_refl _)))
          have HX1 := Lib.hid (XX.out W HW.out)
          have hfl := Lib.hid (flatS_length (fs := fx) (fun f hf => (okX.out f hf).2.1))
          clear a1 a2 a4
          go_wp2_with (at_builtin; refine Hid.out ?_)
          refine Lib.hid ?_
          refine wpList_append_own _ rfl _ _ 85 rfl w7.heap.size 89 i0 (.agg Z64) 64 64 Try.underlying85 hi0 hz0 hz1 hz2 rfl (by omega) _ 1 D.toList rfl OW.out ⟨gX, 0, none⟩ fx.length cX (flatS fx) rfl hfl.out HX1.out (flatS_one fx) (by have := hx3.out; unfold maxLen; omega) (by have := hx3.out; omega) HW.out.size ?_
          intro v' w10 hown' hgrow hnil
          obtain ⟨g10, c10, rfl⟩ := own_pos' hown' (by omega)
          have SI : Hid (SecIn w10 (some ⟨g10, 0, none⟩) (1 + fx.length) c10 (cs :: fx.map sect)) := Lib.hid (by
            refine secIn_of_row (base := w7.heap.size) ?_ (by simp; omega) HSS.out
            rw [List.flatMap_cons, List.flatMap_map]
            have e : D.toList = bys cs := by rw [← hD.out]
            rw [e] at hown'
            exact hown')
          have B10 := Lib.hid (HW.out.grown hgrow HW.out.size (fun j ej => (World.ownsRow.lt OW.out j ej).1))
          have G10 : Hid (∀ k t cs, k ≠ b → Blk W k t cs → Blk w10 k t cs) := Lib.hid fun k t cs hk hb => (hgrow.block k hb.lt (fun e => hk (by cases e; rfl))).trans hb
          have S10 := Lib.hid hgrow.size
          clear hown' hgrow hnil
          go_wp2
          show K _ _
          exact hK (sv (sv (sv v 61 (.slice (some ⟨b, 0, none⟩) 1 1)) 62 (.slice (some ⟨gX, 0, none⟩) fx.length cX)) 63 (.slice (some ⟨g10, 0, none⟩) (1 + fx.length) c10)) _ ⟨B10.out, fun h => HJ.out.e0 (upd_of h (by decide)), fun h => HJ.out.e1 (upd_of h (by decide)), fun h => HJ.out.e2 (upd_of h (by decide)), fun _ h => (by rw [upd_at] at h; cases h), fun _ => rfl, fun _ _ => ⟨g10, c10, rfl, SI.out⟩, fun h => HJ.out.e6 (upd_of h (by decide)), fun h => HJ.out.e7 (upd_of h (by decide)), fun h => HJ.out.e8 (upd_of h (by decide)), fun h => HJ.out.e9 (upd_of h (by decide)), fun h => (by obtain ⟨b1, a1, a2, a3, a5⟩ := HJ.out.e10 (upd_of h (by decide)); exact ⟨b1, a1, a2, Nat.lt_of_lt_of_le a3 S10.out, fun h6 => G10.out _ _ _ (fun e => A4.out (upd_of h (by decide)) (by rw [a1, e])) (a5 (upd_no h6))⟩), fun h => HJ.out.e12 (upd_of h (by decide))⟩
        · -- operation 6
          obtain ⟨g5, c5, a1, a2⟩ := HJ.out.e5 (hall ⟨5, .data⟩ (by simp) rfl) hL
          rw [a1, HJ.out.e0 (hall ⟨0, .data⟩ (by simp) rfl), HJ.out.e1 (hall ⟨1, .data⟩ (by simp) rfl)]
          have A2 := Lib.hid a2
          clear a1 a2
          go_wp2_with fail
          refine (PAR.out W g5 c5 A2.out).mono ?_
          rintro r w6' ⟨rfl, hb6'⟩
          have HJ2 := Lib.hid (HJ.out.grow hb6')
          clear hb6'
          go_wp2
          show K _ _
          exact hK (sv (sv (sv (sv v 58 (.agg T)) 59 (.int .i64 z)) 63 (.slice (some ⟨g5, 0, none⟩) (1 + fx.length) c5)) 64 (.tuple #[sn0, .int .i64 10])) _ ⟨HJ2.out.b, fun _ => rfl, fun _ => rfl, fun h => HJ2.out.e2 (upd_of h (by decide)), fun h3 h5 => (by obtain ⟨b, a1, a2, a3, a4⟩ := HJ2.out.e3 (upd_of h3 (by decide)) (upd_no h5); exact ⟨b, a1, a2, a3, fun h => a4 (upd_of h (by decide))⟩), fun h => HJ2.out.e4 (upd_of h (by decide)), fun _ h => (by rw [upd_at] at h; cases h), fun _ => rfl, fun h => HJ2.out.e7 (upd_of h (by decide)), fun h => HJ2.out.e8 (upd_of h (by decide)), fun h => HJ2.out.e9 (upd_of h (by decide)), fun h => (by obtain ⟨b, a1, a2, a3, a4⟩ := HJ2.out.e10 (upd_of h (by decide)); exact ⟨b, a1, a2, a3, fun h => a4 (upd_no h)⟩), fun h => HJ2.out.e12 (upd_of h (by decide))⟩
        · -- operation 7
          rw [HJ.out.e6 (hall ⟨6, .data⟩ (by simp) rfl)]
          go_wp2
          show K _ _
          exact hK (sv (sv v 64 (.tuple #[sn0, .int .i64 10])) 57 (.tuple #[sn0, .int .i64 10])) _ ⟨HJ.out.b, fun h => HJ.out.e0 (upd_of h (by decide)), fun h => HJ.out.e1 (upd_of h (by decide)), fun h => HJ.out.e2 (upd_of h (by decide)), fun h3 h5 => (by obtain ⟨b, a1, a2, a3, a4⟩ := HJ.out.e3 (upd_of h3 (by decide)) (upd_no h5); exact ⟨b, a1, a2, a3, fun h => a4 (upd_of h (by decide))⟩), fun h => HJ.out.e4 (upd_of h (by decide)), fun h5 h6 => HJ.out.e5 (upd_of h5 (by decide)) (upd_no h6), fun _ => rfl, fun _ => rfl, fun h => HJ.out.e8 (upd_of h (by decide)), fun h => HJ.out.e9 (upd_of h (by decide)), fun h => (by obtain ⟨b, a1, a2, a3, a4⟩ := HJ.out.e10 (upd_of h (by decide)); exact ⟨b, a1, a2, a3, fun h => a4 (upd_no h)⟩), fun h => HJ.out.e12 (upd_of h (by decide))⟩
        · -- operation 8
          rw [HJ.out.e7 (hall ⟨7, .data⟩ (by simp) rfl)]
          go_wp2
          show K _ _
          exact hK (sv (sv v 57 (.tuple #[sn0, .int .i64 10])) 65 sn0) _ ⟨HJ.out.b, fun h => HJ.out.e0 (upd_of h (by decide)), fun h => HJ.out.e1 (upd_of h (by decide)), fun h => HJ.out.e2 (upd_of h (by decide)), fun h3 h5 => (by obtain ⟨b, a1, a2, a3, a4⟩ := HJ.out.e3 (upd_of h3 (by decide)) (upd_no h5); exact ⟨b, a1, a2, a3, fun h => a4 (upd_of h (by decide))⟩), fun h => HJ.out.e4 (upd_of h (by decide)), fun h5 h6 => HJ.out.e5 (upd_of h5 (by decide)) (upd_no h6), fun h => HJ.out.e6 (upd_of h (by decide)), fun _ => rfl, fun _ => rfl, fun h => HJ.out.e9 (upd_of h (by decide)), fun h => (by obtain ⟨b, a1, a2, a3, a4⟩ := HJ.out.e10 (upd_of h (by decide)); exact ⟨b, a1, a2, a3, fun h => a4 (upd_no h)⟩), fun h => HJ.out.e12 (upd_of h (by decide))⟩
        · -- operation 9
          rw [HJ.out.e7 (hall ⟨7, .data⟩ (by simp) rfl)]
          go_wp2
          show K _ _
          exact hK (sv (sv v 57 (.tuple #[sn0, .int .i64 10])) 66 (.int .i64 10)) _ ⟨HJ.out.b, fun h => HJ.out.e0 (upd_of h (by decide)), fun h => HJ.out.e1 (upd_of h (by decide)), fun h => HJ.out.e2 (upd_of h (by decide)), fun h3 h5 => (by obtain ⟨b, a1, a2, a3, a4⟩ := HJ.out.e3 (upd_of h3 (by decide)) (upd_no h5); exact ⟨b, a1, a2, a3, fun h => a4 (upd_of h (by decide))⟩), fun h => HJ.out.e4 (upd_of h (by decide)), fun h5 h6 => HJ.out.e5 (upd_of h5 (by decide)) (upd_no h6), fun h => HJ.out.e6 (upd_of h (by decide)), fun _ => rfl, fun h => HJ.out.e8 (upd_of h (by decide)), fun _ => rfl, fun h => (by obtain ⟨b, a1, a2, a3, a4⟩ := HJ.out.e10 (upd_of h (by decide)); exact ⟨b, a1, a2, a3, fun h => a4 (upd_no h)⟩), fun h => HJ.out.e12 (upd_of h (by decide))⟩
        · -- operation 10
          have k10 : Below W.heap.size W (W.alloc (.cells #[.int .i64 0, .int .i64 0, .int .i64 0, .pointer none] 53)) := below_box _ _
          have HJ2 := Lib.hid (HJ.out.grow k10)
          have K10 := Lib.hid k10
          clear k10
          go_wp2
          show K _ _
          exact hK (sv v 21 (.pointer (some ⟨W.heap.size, 0, none⟩))) _ ⟨HJ2.out.b, fun h => HJ2.out.e0 (upd_of h (by decide)), fun h => HJ2.out.e1 (upd_of h (by decide)), fun h => HJ2.out.e2 (upd_of h (by decide)), fun h3 h5 => (by obtain ⟨b, a1, a2, a3, a4⟩ := HJ.out.e3 (upd_of h3 (by decide)) (upd_no h5); exact ⟨b, a1, (Keeps.of_below (S := []) K10.out).blk a2.lt (by simp) a2, a3, fun _ e => (by have e2 : Value.pointer (some ⟨W.heap.size, 0, none⟩) = .pointer (some ⟨b, 0, none⟩) := e; injection e2 with e2; injection e2 with e2; injection e2 with e2; have := a2.lt; omega)⟩), fun h => HJ2.out.e4 (upd_of h (by decide)), fun h5 h6 => HJ2.out.e5 (upd_of h5 (by decide)) (upd_no h6), fun h => HJ2.out.e6 (upd_of h (by decide)), fun h => HJ2.out.e7 (upd_of h (by decide)), fun h => HJ2.out.e8 (upd_of h (by decide)), fun h => HJ2.out.e9 (upd_of h (by decide)), fun _ => ⟨W.heap.size, rfl, HW.out.size, by simp, fun _ => Blk.newAt rfl⟩, fun h => HJ2.out.e12 (upd_of h (by decide))⟩
        · -- operation 11
          obtain ⟨b, a1, a2, a3, a4⟩ := HJ.out.e10 (hall ⟨10, .data⟩ (by simp) rfl)
          rw [a1, HJ.out.e8 (hall ⟨8, .data⟩ (by simp) rfl)]
          have l5 := hall ⟨5, .phase⟩ (by simp) rfl
          have l6 := hall ⟨6, .phase⟩ (by simp) rfl
          have A4 := Lib.hid (a4 hL)
          clear a1 a4
          go_wp2_with (refine wpList_store_blk rfl 53 (.tmp 21) (.tmp 65) rfl b 0 #[.int .i64 0, .int .i64 0, .int .i64 0, .pointer none] rfl rfl A4.out (Nat.le_refl 4) size_snap (by simp [Value.oneCell']) ?_; intro W8 hG8 hK8 hs8)
          have B8 : Hid (Below w7.heap.size w7 W8) := Lib.hid (HW.out.trans (Keeps.below (hK8.out.mono HW.out.size (fun _ h => h)) (by simpa using a2)))
          have S8 : Hid (W.heap.size ≤ W8.heap.size) := Lib.hid hK8.out.size
          show K _ _
          exact hK (sv (sv v 21 (.pointer (some ⟨b, 0, none⟩))) 65 sn0) _ ⟨B8.out, fun h => HJ.out.e0 (upd_of h (by decide)), fun h => HJ.out.e1 (upd_of h (by decide)), fun h => HJ.out.e2 (upd_of h (by decide)), fun _ h => (by have := upd_no h; rw [l5] at this; cases this), fun h => HJ.out.e4 (upd_of h (by decide)), fun _ h => (by have := upd_no h; rw [l6] at this; cases this), fun h => HJ.out.e6 (upd_of h (by decide)), fun h => HJ.out.e7 (upd_of h (by decide)), fun _ => rfl, fun h => HJ.out.e9 (upd_of h (by decide)), fun _ => ⟨b, rfl, a2, Nat.lt_of_lt_of_le a3 S8.out, fun h => (by rw [upd_at] at h; cases h)⟩, fun h => HJ.out.e12 (upd_of h (by decide))⟩
        · -- operation 12
          rw [HJ.out.e9 (hall ⟨9, .data⟩ (by simp) rfl)]
          go_wp2
          show K _ _
          exact hK (sv (sv v 66 (.int .i64 10)) 22 (.int .i64 10)) _ ⟨HJ.out.b, fun h => HJ.out.e0 (upd_of h (by decide)), fun h => HJ.out.e1 (upd_of h (by decide)), fun h => HJ.out.e2 (upd_of h (by decide)), fun h3 h5 => (by obtain ⟨b, a1, a2, a3, a4⟩ := HJ.out.e3 (upd_of h3 (by decide)) (upd_no h5); exact ⟨b, a1, a2, a3, fun h => a4 (upd_of h (by decide))⟩), fun h => HJ.out.e4 (upd_of h (by decide)), fun h5 h6 => HJ.out.e5 (upd_of h5 (by decide)) (upd_no h6), fun h => HJ.out.e6 (upd_of h (by decide)), fun h => HJ.out.e7 (upd_of h (by decide)), fun h => HJ.out.e8 (upd_of h (by decide)), fun _ => rfl, fun h => (by obtain ⟨b, a1, a2, a3, a4⟩ := HJ.out.e10 (upd_of h (by decide)); exact ⟨b, a1, a2, a3, fun h => a4 (upd_no h)⟩), fun _ => rfl⟩
        -- END
      · intro L v W hJ hall
        have h22 := hJ.e12 (hall 12 (by decide))
        have B8 := Lib.hid hJ.b
        simp only [ins, List.setIfInBounds_toArray, List.set_cons_zero, List.set_cons_succ]
        rw [h22]
        clear hJ hall h22 hsf
        obtain ⟨zr0, zr1⟩ := hzr.out
        have PAR2 : Hid (Calls Try.prog 55 #[.agg T, .int .i64 (z + 1), .slice (some ⟨gX, 0, none⟩) fx.length cX] W fun r w' => r = .returned (.tuple #[sn0, .int .i64 10]) ∧ Below W.heap.size W w') := Lib.hid (by
          have hS : SecIn W (some ⟨gX, 0, none⟩) fx.length cX (fx.map sect) := by
            refine secIn_of_row (base := V6.heap.size) ?_ (by simp) (fun xs hx => HSS.out xs (List.mem_cons_of_mem _ hx))
            rw [List.flatMap_map]
            exact own_grow' HOWN.out B8.out
          rw [← hT.out]
          exact parse_none W (z + 1) _ _ cX _ hS (by omega) fun fs hp => parsed_far hp okX.out fun f hf => by have := (HF1.out f hf).2; omega)
        go_wp2_with (refine wpList_load_blk rfl 83 (.tmp 18) rfl w6.heap.size 0 rfl (TT.out W B8.out) T (row_whole T) _ Try.underlying83 rfl HSZT.out ?_)
        refine PAR2.out.mono ?_
        rintro r w9 ⟨rfl, hb9⟩
        obtain ⟨V9, hV9⟩ : ∃ V, w9.alloc (.cells #[.int .i64 0, .int .i64 0, .int .i64 0, .pointer none] 53) = V := ⟨_, rfl⟩
        have b9 : Below w9.heap.size w9 V9 := by rw [← hV9]; exact below_box _ _
        have B9 : Hid (Below w7.heap.size w7 V9) := Lib.hid (B8.out.trans ((hb9.trans (b9.mono hb9.size)).mono B8.out.size))
        have HV9 := Lib.hid hV9
        have HAT : Hid (Calls Try.prog 57 #[.agg T, .agg D, .int .i64 z, .int .i64 0] V9 (AtPost V9 cs z 0)) := Lib.hid (by rw [← hT.out, ← hD.out]; exact frame_at V9 cs HCS.out.1 HCS.out.2 z 0)
        have TL : Hid (Blk (w9.alloc (.cells #[.int .i64 0, .int .i64 0, .int .i64 0, .pointer none] 53)) w6.heap.size 83 T) := Lib.hid (by rw [hV9]; exact TT.out V9 B9.out)
        have DL : Hid (Blk (w9.alloc (.cells #[.int .i64 0, .int .i64 0, .int .i64 0, .pointer none] 53)) (w.heap.size + 1) 89 D) := Lib.hid (by rw [hV9]; exact DD.out V9 B9.out)
        clear hb9 b9 hV9
        go_wp2_with (first
          | (refine wpList_load_blk rfl 83 (.tmp 18) rfl w6.heap.size 0 rfl TL.out T (row_whole T) _ Try.underlying83 rfl HSZT.out ?_)
          | (refine wpList_load_blk rfl 89 (.tmp 13) rfl (w.heap.size + 1) 0 rfl DL.out D (row_whole D) _ Try.underlying89 rfl HDI.out ?_))
        rw [HV9.out]
        refine HAT.out.mono ?_
        rintro r w4 ⟨hb4, hpost⟩
        have U10 := Lib.hid (A7.out.u.trans ((B9.out.trans (hb4.mono B9.out.size)).mono A7.out.u.size))
        rcases hpost with ⟨f, hf, hx, hzo, rfl⟩ | ⟨e, he, hno, rfl⟩
        · have hfs := Fr.size hf.2.1
          have hi1 : (Try.prog.info? 64).map (·.size) = some f.arr.size := by rw [hfs]; exact size_frame
          have hst1 : ∀ W : World, (storeCells ⟨W.heap.size, 0, none⟩ f.arr.toList 0).run Try.prog (W.alloc (.cells Z49 64)) = .ok () (W.alloc (.cells f.arr 64)) := fun W => run_storeCells_new W 64 Z49 f.arr hi1 (by rw [hfs]; rfl) (Fr.one f)
          obtain ⟨V2, hV2⟩ : ∃ V, w4.alloc (.cells f.arr 64) = V := ⟨_, rfl⟩
          have F2 : Blk V2 w4.heap.size 64 f.arr := by rw [← hV2]; exact Blk.newAt rfl
          have U2 : Hid (Below w.heap.size w V2) := Lib.hid (by rw [← hV2]; exact U10.out.alloc U10.out.size _)
          obtain ⟨⟨x0, x1⟩, ⟨x2, x3⟩, x4⟩ := F2.fcells
          have hlt := F2.lt
          obtain ⟨q, hq⟩ : ∃ q, (f.kd == 4) = q := ⟨_, rfl⟩
          clear F2 hf hx hzo hb4
          cases q
          · go_wp2
            go_ret
            exact ⟨rfl, U2.out⟩
          · go_wp2
            go_ret
            exact ⟨rfl, U2.out⟩
        · obtain ⟨X, hX⟩ : ∃ X : Array Value, Hid (Z49 = X) := ⟨_, Lib.hid rfl⟩
          have hXs : X.size = 49 := by rw [← hX.out]; rfl
          have hX1 : X.all (·.oneCell') = true := by rw [← hX.out]; exact Z49_one
          have hi1 : (Try.prog.info? 64).map (·.size) = some X.size := by rw [hXs]; exact size_frame
          have hst1 : ∀ W : World, (storeCells ⟨W.heap.size, 0, none⟩ X.toList 0).run Try.prog (W.alloc (.cells Z49 64)) = .ok () (W.alloc (.cells X 64)) := fun W => run_storeCells_new W 64 Z49 X hi1 (by rw [hXs]; rfl) hX1
          have he0 : ¬ e = 0 := by omega
          have U2 : Hid (Below w.heap.size w (w4.alloc (.cells X 64))) := Lib.hid (U10.out.alloc U10.out.size _)
          clear hno he hb4 hi1 hX1
          rw [hX.out]
          go_wp2
          go_ret
          exact ⟨rfl, U2.out⟩
end Go.Proofs.Ytcgafnmpfdkfoaa
/- Arguments that hold whole numbers alone (structs, arrays, slices of them), opened to their cells. Over any program. -/
namespace Go.Proofs.Ytcgafnmpfdkfoaa
open Go.RowKit Go.ChangeShapes Go.WideShapes Go.Deep

/-- Which kind of whole number lies at a cell of a type. -/
def kindAt (P : Program) : Nat → TypeId → Nat → Option IntKind
  | 0, _, _ => none
  | f + 1, t, i =>
    match P.underlying t with
    | some (.int k) => if i = 0 then some k else none
    | some (.struct fs) => fs.toList.findSome? fun x => if x.offset ≤ i ∧ i < x.offset + P.cellsOf x.type then kindAt P f x.type (i - x.offset) else none
    | some (.array n e) => if 0 < P.cellsOf e ∧ i / P.cellsOf e < n then kindAt P f e (i % P.cellsOf e) else none
    | _ => none

section
variable {H : Type} {enc : TypeId × Value → H} {P : Program} {w : World} {base : Nat} {spare : Nat → Bool} {held : Bool}
theorem cell_of_trod (f : Nat) : ∀ {t : TypeId} {i : Nat} {k : IntKind} {fuel : Nat} {cs : List Value} {x : DataW H × List MemPlace}, kindAt P f t i = some k → DataW.trod enc P w base spare held fuel t cs = some x → ∃ n, cs[i]? = some (.int k n) ∧ (Lit.int k n).wf = true := by
  induction f with
  | zero => intro t i k fuel cs x h; simp [kindAt] at h
  | succ f ih =>
    intro t i k fuel cs x h hx
    unfold kindAt at h
    split at h
    · rename_i k' ht
      split at h
      · rename_i hi
        subst hi
        injection h with h
        subst h
        obtain ⟨n, rfl, _, hw⟩ := DataW.trod_int ht hx
        exact ⟨n, rfl, hw⟩
      · cases h
    · rename_i fs ht
      obtain ⟨fl, hmem, hf⟩ := List.exists_of_findSome?_eq_some h
      split at hf
      · rename_i hr
        obtain ⟨xs, m, _, _, hl, hxs, hg⟩ := DataW.trod_struct ht hx
        obtain ⟨j, hj, hje⟩ := List.getElem_of_mem hmem
        have hj' : fs[j]? = some fl := by
          rw [Array.getElem?_eq_getElem (by simpa using hj)]
          simpa using hje
        have hy := hg j fl hj'
        have hjl : j < xs.length := by rw [hxs]; simpa using hj
        rw [List.getElem?_eq_getElem hjl] at hy
        obtain ⟨n, hn, hw⟩ := ih hf hy
        refine ⟨n, ?_, hw⟩
        rw [List.getElem?_take, if_pos (by omega), List.getElem?_drop] at hn
        rw [← hn]; congr 1; omega
      · cases hf
    · rename_i n e ht
      split at h
      · rename_i hr
        obtain ⟨xs, m, _, _, hl, hxs, hg⟩ := DataW.trod_array ht hx
        have hy := hg (i / P.cellsOf e) hr.2
        rw [List.getElem?_eq_getElem (by omega)] at hy
        obtain ⟨v, hn, hw⟩ := ih h hy
        refine ⟨v, ?_, hw⟩
        have hlt := Nat.mod_lt i hr.1
        rw [List.getElem?_take, if_pos hlt, List.getElem?_drop] at hn
        rw [← hn]; congr 1
        have := Nat.div_add_mod i (P.cellsOf e)
        rw [Nat.mul_comm]; exact this.symm
      · cases h
    · cases h

/-- A struct or an array by value: each of its cells. -/
theorem open_flat {r : Reach} {b0 : Nat} {t : TypeId} {v : Value} {d : DataW H} {p : List MemPlace} (f sz : Nat) (K : Nat → IntKind) (hk : ∀ i, i < sz → kindAt P f t i = some (K i)) (hC : P.cellsOf t = sz)
    (hs : (∃ fs, P.underlying t = some (.struct fs)) ∨ ∃ n e, P.underlying t = some (.array n e)) (hv : Value.okWide P w r b0 t v) (h : DataW.Trod enc P w base spare held t v d p) :
    ∃ cs : Array Value, v = .agg cs ∧ cs.size = sz ∧ ∀ i, i < sz → ∃ n, cs[i]? = some (.int (K i) n) ∧ (Lit.int (K i) n).wf = true := by
  have hv' : ∃ cs, v = .agg cs ∧ cs.size = P.cellsOf t := by
    unfold Value.okWide at hv
    rcases hs with ⟨fs, hs⟩ | ⟨n, e, hs⟩ <;> rw [hs] at hv <;> obtain ⟨cs, h1, h2, _⟩ := hv <;> exact ⟨cs, h1, h2⟩
  obtain ⟨cs, rfl, hz⟩ := hv'
  obtain ⟨fuel, hf⟩ := h
  refine ⟨cs, rfl, hz.trans hC, fun i hi => ?_⟩
  obtain ⟨n, hn, hw⟩ := cell_of_trod f (hk i hi) hf
  exact ⟨n, by simpa [Value.cells] using hn, hw⟩

/-- A slice of such: where it has elements, a row of cells. -/
def RowAt (w : World) (A : Option Addr) (n c sz : Nat) (K : Nat → IntKind) : Prop :=
  n ≤ c ∧ c ≤ maxLen ∧ (0 < n → ∃ b off, A = some ⟨b, off, none⟩ ∧ b < w.heap.size ∧ ∀ i, i < n → ∀ j, j < sz → ∃ v, w.cell? ⟨b, off + i * sz + j, none⟩ = some (.int (K j) v) ∧ (Lit.int (K j) v).wf = true)
theorem add_plain (b o j : Nat) : (⟨b, o, none⟩ : Addr).add j = ⟨b, o + j, none⟩ := by unfold Addr.add; split <;> simp_all
theorem open_rows {r : Reach} {b0 : Nat} {t e : TypeId} {v : Value} {d : DataW H} {p : List MemPlace} (f sz : Nat) (K : Nat → IntKind) (hk : ∀ i, i < sz → kindAt P f e i = some (K i)) (hC : P.cellsOf e = sz) (hz : 0 < sz)
    (ht : P.underlying t = some (.slice e)) (hv : Value.okWide P w r b0 t v) (h : DataW.Trod enc P w base spare held t v d p) : ∃ A n c, v = .slice A n c ∧ RowAt w A n c sz K := by
  obtain ⟨A, n, c, rfl⟩ := okWide_slice ht hv
  refine ⟨A, n, c, rfl, ?_⟩
  obtain ⟨fuel, hf⟩ := h
  rcases open_slice ht hf with ⟨hcs, _⟩ | ⟨a, len, cap, m, _, D, Pl, hcs, _, hl, hm, hmm, _, hi⟩
  · simp [Value.cells] at hcs
    obtain ⟨rfl, rfl, rfl⟩ := hcs
    exact ⟨Nat.le_refl _, Nat.zero_le _, fun h => absurd h (by omega)⟩
  · simp [Value.cells] at hcs
    obtain ⟨rfl, rfl, rfl⟩ := hcs
    refine ⟨hl, hm, fun hn => ?_⟩
    have hnm : n ≤ m := by rw [hmm]; split <;> omega
    have key : ∀ i, i < n → ∀ j, j < sz → ∃ v, w.cell? (a.add (i * sz + j)) = some (.int (K j) v) ∧ (Lit.int (K j) v).wf = true := by
      intro i hi' j hj
      obtain ⟨cs', hc, ht'⟩ := hi i (by omega)
      obtain ⟨v, hv, hw⟩ := cell_of_trod f (hk j hj) ht'
      refine ⟨v, ?_, hw⟩
      obtain ⟨_, hcl, hat⟩ := World.cells?_some hc
      have hcell := hat j (by rw [hC]; exact hj)
      rw [Go.Deep.add_add, hC] at hcell
      rw [hcell, hv]
    obtain ⟨v0, h0, _⟩ := key 0 hn 0 hz
    have hadd : a.add (0 * sz + 0) = a := by simp [Addr.add]
    rw [hadd] at h0
    have hblk := World.block_lt_of_cell? w a h0
    have hspot : a.spot = none := by
      unfold World.cell? at h0
      split at h0
      · cases hsp : a.spot with
        | none => rfl
        | some s => rw [hsp] at h0; simp at h0
      · cases h0
    obtain ⟨b, off, spot⟩ := a
    dsimp only at hspot hblk
    subst hspot
    refine ⟨b, off, rfl, hblk, fun i hi' j hj => ?_⟩
    have := key i hi' j hj
    rw [add_plain, ← Nat.add_assoc] at this
    exact this
theorem exists_list {α : Type} {n : Nat} {Q : Nat → α → Prop} (h : ∀ i, i < n → ∃ x, Q i x) : ∃ l : List α, l.length = n ∧ ∀ i x, l[i]? = some x → Q i x := by
  induction n with
  | zero => exact ⟨[], rfl, fun i x hx => by simp at hx⟩
  | succ n ih =>
    obtain ⟨l, hl, hq⟩ := ih (fun i hi => h i (by omega))
    obtain ⟨x, hx⟩ := h n (by omega)
    refine ⟨l ++ [x], by simp [hl], fun i y hy => ?_⟩
    by_cases hi : i < n
    · rw [List.getElem?_append_left (by omega)] at hy; exact hq i y hy
    · rw [List.getElem?_append_right (by omega)] at hy
      have : i - l.length = 0 := by
        rcases Nat.eq_zero_or_pos (i - l.length) with h0 | h0
        · exact h0
        · rw [List.getElem?_eq_none (by simp; omega)] at hy; cases hy
      rw [this] at hy
      simp at hy
      subst hy
      obtain rfl : i = n := by omega
      exact hx
end
end Go.Proofs.Ytcgafnmpfdkfoaa
/- Geometries and steps out of opened arguments. -/
namespace Go.Proofs.Ytcgafnmpfdkfoaa
open Go.RowKit
theorem geom_of {cs : Array Value} (hs : cs.size = 6) (h : ∀ i, i < 6 → ∃ n, cs[i]? = some (.int .i64 n) ∧ (Lit.int .i64 n).wf = true) : ∃ g : G, Value.agg cs = g.v := by
  obtain ⟨l⟩ := cs
  match l, hs with
  | [c0, c1, c2, c3, c4, c5], _ =>
    obtain ⟨n0, h0, _⟩ := h 0 (by omega)
    obtain ⟨n1, h1, _⟩ := h 1 (by omega)
    obtain ⟨n2, h2, _⟩ := h 2 (by omega)
    obtain ⟨n3, h3, _⟩ := h 3 (by omega)
    obtain ⟨n4, h4, _⟩ := h 4 (by omega)
    obtain ⟨n5, h5, _⟩ := h 5 (by omega)
    simp at h0 h1 h2 h3 h4 h5
    subst h0 h1 h2 h3 h4 h5
    exact ⟨⟨n0, n1, n2, n3, n4, n5⟩, rfl⟩
theorem ops_of {w : World} {A : Option Addr} {n c : Nat} (h : RowAt w A n c 7 (fun _ => .i64)) : ∃ ops, OpsAt w A n c ops := by
  obtain ⟨h1, h2, h3⟩ := h
  rcases Nat.eq_zero_or_pos n with h0 | h0
  · subst h0
    exact ⟨[], rfl, h1, h2, fun h => absurd h (by omega)⟩
  · obtain ⟨b, off, hA, hb, hc⟩ := h3 h0
    obtain ⟨l, hl, hq⟩ := exists_list (α := Op11) (n := n) (Q := fun k o => w.cell? ⟨b, off + k * 7, none⟩ = some (.int .i64 o.b) ∧ w.cell? ⟨b, off + k * 7 + 1, none⟩ = some (.int .i64 o.e.st) ∧ w.cell? ⟨b, off + k * 7 + 2, none⟩ = some (.int .i64 o.e.zn) ∧ w.cell? ⟨b, off + k * 7 + 3, none⟩ = some (.int .i64 o.e.mt) ∧
      w.cell? ⟨b, off + k * 7 + 4, none⟩ = some (.int .i64 o.e.off) ∧ w.cell? ⟨b, off + k * 7 + 5, none⟩ = some (.int .i64 o.e.sq) ∧ w.cell? ⟨b, off + k * 7 + 6, none⟩ = some (.int .i64 o.e.sm)) (fun i hi => by
        obtain ⟨v0, e0, _⟩ := hc i hi 0 (by omega)
        obtain ⟨v1, e1, _⟩ := hc i hi 1 (by omega)
        obtain ⟨v2, e2, _⟩ := hc i hi 2 (by omega)
        obtain ⟨v3, e3, _⟩ := hc i hi 3 (by omega)
        obtain ⟨v4, e4, _⟩ := hc i hi 4 (by omega)
        obtain ⟨v5, e5, _⟩ := hc i hi 5 (by omega)
        obtain ⟨v6, e6, _⟩ := hc i hi 6 (by omega)
        exact ⟨⟨v0, ⟨v1, v2, v3, v4, v5, v6⟩⟩, e0, e1, e2, e3, e4, e5, e6⟩)
    exact ⟨l, hl, h1, h2, fun _ => ⟨b, off, hA, hb, hq⟩⟩
end Go.Proofs.Ytcgafnmpfdkfoaa
/- A sector out of an opened argument. -/
namespace Go.Proofs.Ytcgafnmpfdkfoaa
open Go.RowKit
/-- The bytes of a sector. -/
structure Sec where
  xs : List Int
  len : xs.length = 64
  byt : Byt xs
theorem sec_of {cs : Array Value} (hs : cs.size = 64) (h : ∀ i, i < 64 → ∃ n, cs[i]? = some (.int .u8 n) ∧ (Lit.int .u8 n).wf = true) : ∃ x : Sec, Value.agg cs = .agg (bys x.xs).toArray := by
  obtain ⟨l, hl, hq⟩ := exists_list (α := Int) (n := 64) (Q := fun i n => cs[i]? = some (.int .u8 n) ∧ (0 ≤ n ∧ n < 256)) (fun i hi => by
    obtain ⟨n, h1, h2⟩ := h i hi
    refine ⟨n, h1, ?_⟩
    simp [Lit.wf, IntKind.min, IntKind.max, IntKind.signed, IntKind.bits] at h2
    omega)
  refine ⟨⟨l, hl, fun b hb => ?_⟩, ?_⟩
  · obtain ⟨k, hk⟩ := List.mem_iff_getElem?.1 hb
    exact (hq k b hk).2
  · congr 1
    apply Array.ext_getElem?
    intro i
    rcases Nat.lt_or_ge i 64 with hi | hi
    · obtain ⟨x, hx⟩ : ∃ x, l[i]? = some x := ⟨_, List.getElem?_eq_getElem (by omega)⟩
      rw [(hq i x hx).1]
      simp [bys, hx]
    · rw [Array.getElem?_eq_none (by omega), List.getElem?_toArray, List.getElem?_eq_none (by rw [bys_length, Nat.mul_one]; show l.length ≤ i; omega)]
end Go.Proofs.Ytcgafnmpfdkfoaa
/- What a row asks of the program's head alone: shown by its first words, the rest left unread (as one closed fact it outgrows the kernel's memory: the head names 21 laws). -/
namespace Go.Proofs.Ytcgafnmpfdkfoaa
open Go

theorem words_cons (l r : List Char) (h : ∀ c ∈ l, c ≠ Char.ofNat 32) : wordsSigns (l ++ Char.ofNat 32 :: r) = l :: wordsSigns r := by
  induction l with
  | nil => rfl
  | cons c l ih =>
    have hc : c ≠ Char.ofNat 32 := h c List.mem_cons_self
    have := ih (fun x hx => h x (List.mem_cons_of_mem _ hx))
    show wordsSigns (c :: (l ++ Char.ofNat 32 :: r)) = _
    rw [wordsSigns, this]
    intro hc'
    exact hc hc'
set_option maxRecDepth 100000 in
theorem head_split : ∃ r, Try.prog.initOrder = String.ofList (Char.ofNat 104 :: Char.ofNat 97 :: Char.ofNat 114 :: Char.ofNat 110 :: Char.ofNat 101 :: Char.ofNat 115 :: Char.ofNat 115 :: Char.ofNat 32 :: Char.ofNat 52 :: Char.ofNat 54 :: Char.ofNat 97 :: Char.ofNat 49 :: Char.ofNat 52 :: Char.ofNat 55 :: Char.ofNat 57 :: Char.ofNat 51 :: Char.ofNat 97 :: Char.ofNat 99 :: Char.ofNat 55 :: Char.ofNat 101 :: Char.ofNat 48 :: Char.ofNat 97 :: Char.ofNat 100 :: Char.ofNat 51 :: Char.ofNat 98 :: Char.ofNat 50 :: Char.ofNat 56 :: Char.ofNat 97 :: Char.ofNat 51 :: Char.ofNat 98 :: Char.ofNat 101 :: Char.ofNat 102 :: Char.ofNat 53 :: Char.ofNat 55 :: Char.ofNat 54 :: Char.ofNat 50 :: Char.ofNat 97 :: Char.ofNat 48 :: Char.ofNat 97 :: Char.ofNat 54 :: Char.ofNat 48 :: Char.ofNat 57 :: Char.ofNat 57 :: Char.ofNat 97 :: Char.ofNat 52 :: Char.ofNat 100 :: Char.ofNat 97 :: Char.ofNat 49 :: Char.ofNat 50 :: Char.ofNat 57 :: Char.ofNat 49 :: Char.ofNat 98 :: Char.ofNat 49 :: Char.ofNat 99 :: Char.ofNat 55 :: Char.ofNat 49 :: Char.ofNat 57 :: Char.ofNat 48 :: Char.ofNat 53 :: Char.ofNat 56 :: Char.ofNat 50 :: Char.ofNat 51 :: Char.ofNat 55 :: Char.ofNat 57 :: Char.ofNat 97 :: Char.ofNat 101 :: Char.ofNat 98 :: Char.ofNat 53 :: Char.ofNat 53 :: Char.ofNat 101 :: Char.ofNat 53 :: Char.ofNat 52 :: Char.ofNat 32 :: Char.ofNat 99 :: Char.ofNat 117 :: Char.ofNat 116 :: Char.ofNat 32 :: r) := ⟨_, rfl⟩
noncomputable def headRest : List Char := Classical.choose head_split
noncomputable def headSum : List Char := [Char.ofNat 52, Char.ofNat 54, Char.ofNat 97, Char.ofNat 49, Char.ofNat 52, Char.ofNat 55, Char.ofNat 57, Char.ofNat 51, Char.ofNat 97, Char.ofNat 99, Char.ofNat 55, Char.ofNat 101, Char.ofNat 48, Char.ofNat 97, Char.ofNat 100, Char.ofNat 51, Char.ofNat 98, Char.ofNat 50, Char.ofNat 56, Char.ofNat 97, Char.ofNat 51, Char.ofNat 98, Char.ofNat 101, Char.ofNat 102, Char.ofNat 53, Char.ofNat 55, Char.ofNat 54, Char.ofNat 50, Char.ofNat 97, Char.ofNat 48, Char.ofNat 97, Char.ofNat 54, Char.ofNat 48, Char.ofNat 57, Char.ofNat 57, Char.ofNat 97, Char.ofNat 52, Char.ofNat 100, Char.ofNat 97, Char.ofNat 49, Char.ofNat 50, Char.ofNat 57, Char.ofNat 49, Char.ofNat 98, Char.ofNat 49, Char.ofNat 99, Char.ofNat 55, Char.ofNat 49, Char.ofNat 57, Char.ofNat 48, Char.ofNat 53, Char.ofNat 56, Char.ofNat 50, Char.ofNat 51, Char.ofNat 55, Char.ofNat 57, Char.ofNat 97, Char.ofNat 101, Char.ofNat 98, Char.ofNat 53, Char.ofNat 53, Char.ofNat 101, Char.ofNat 53, Char.ofNat 52]
theorem head_is : Try.prog.initOrder.toList = [Char.ofNat 104, Char.ofNat 97, Char.ofNat 114, Char.ofNat 110, Char.ofNat 101, Char.ofNat 115, Char.ofNat 115] ++ Char.ofNat 32 :: (headSum ++ Char.ofNat 32 :: ([Char.ofNat 99, Char.ofNat 117, Char.ofNat 116] ++ Char.ofNat 32 :: headRest)) := by
  have h := Classical.choose_spec head_split
  rw [h, String.toList_ofList]
  rfl
theorem cut_list : "cut".toList = [Char.ofNat 99, Char.ofNat 117, Char.ofNat 116] := by kernel_rfl
theorem harness_list : "harness".toList = [Char.ofNat 104, Char.ofNat 97, Char.ofNat 114, Char.ofNat 110, Char.ofNat 101, Char.ofNat 115, Char.ofNat 115] := by kernel_rfl
theorem behind (h s : List Char) (r : List (List Char)) : behindMainWord (h :: s :: r) = if ((h == "harness".toList || h == "ownmain".toList) && isSumSigns s) = true then r else h :: s :: r := rfl
theorem head_words : behindMainWord (wordsSigns Try.prog.initOrder.toList) = "cut".toList :: wordsSigns headRest := by
  have h1 : ([Char.ofNat 104, Char.ofNat 97, Char.ofNat 114, Char.ofNat 110, Char.ofNat 101, Char.ofNat 115, Char.ofNat 115] : List Char).all (fun c => c != Char.ofNat 32) = true := by kernel_rfl
  have h2 : headSum.all (fun c => c != Char.ofNat 32) = true := by kernel_rfl
  have h3 : ([Char.ofNat 99, Char.ofNat 117, Char.ofNat 116] : List Char).all (fun c => c != Char.ofNat 32) = true := by kernel_rfl
  have no : ∀ l : List Char, l.all (fun c => c != Char.ofNat 32) = true → ∀ c ∈ l, c ≠ Char.ofNat 32 := fun l h c hc => by
    have := List.all_eq_true.1 h c hc
    simpa using this
  rw [head_is, words_cons _ _ (no _ h1), words_cons _ _ (no _ h2), words_cons _ _ (no _ h3), cut_list]
  have hs : isSumSigns headSum = true := by kernel_rfl
  have hh : (([Char.ofNat 104, Char.ofNat 97, Char.ofNat 114, Char.ofNat 110, Char.ofNat 101, Char.ofNat 115, Char.ofNat 115] : List Char) == "harness".toList) = true := by rw [harness_list]; kernel_rfl
  rw [behind, hh, hs]
  rfl
theorem strip_cut (l : List String) (r : List (List Char)) (h : l.all (fun o => !("cut".toList == o.toList)) = true) : stripLifts l ("cut".toList :: r) = ([], "cut".toList :: r) := by
  induction l with
  | nil => rfl
  | cons o l ih =>
    simp only [List.all_cons, Bool.and_eq_true, Bool.not_eq_true'] at h
    rw [stripLifts, ih h.2, h.1]
    rfl
theorem no_lift : liftWords.all (fun o => !("cut".toList == o.toList)) = true := by kernel_rfl
theorem not_carried : (some "cut".toList == some "carried".toList) = false := by kernel_rfl
theorem not_gc : ("cut".toList == "gc".toList) = false := by kernel_rfl
theorem not_spec : ("cut".toList == "spec".toList) = false := by kernel_rfl
theorem is_cut : ("cut".toList == "cut".toList) = true := by kernel_rfl
theorem not_carried' : ("cut".toList == "carried".toList) = false := by kernel_rfl
theorem some_cut : (some "cut".toList == some "cut".toList) = true := by kernel_rfl
section
variable {P : Program} {r : List (List Char)} (h : behindMainWord (wordsSigns P.initOrder.toList) = "cut".toList :: r)
include h
theorem lifts_of : P.liftsFinal = false := by
  unfold Program.liftsFinal Program.headLifts
  rw [h, strip_cut _ _ no_lift]
  simp only [List.head?_cons, not_carried, Bool.false_and, Bool.false_or, some_cut, if_true]
  rfl
theorem make_of : P.make = some .cut := by
  unfold Program.make
  rw [h]
  simp only [not_gc, not_spec, is_cut, Bool.or_false, Bool.true_or, if_true, Bool.false_eq_true, if_false]
theorem enter_of (h1 : (!P.laysLater) = true) (h2 : (!P.bearsReflect) = true) (h3 : P.doorFits [] = true) : P.mayEnter = true := by
  unfold Program.mayEnter
  rw [h]
  simp only [strip_cut _ _ no_lift, h1, h2, h3, List.head?_cons, not_gc, not_spec, not_carried', some_cut, Bool.or_false, Bool.false_and, Bool.false_or, Bool.and_true, Bool.or_true, Bool.true_and]
  rfl
end
theorem head_lifts : Try.prog.liftsFinal = false := lifts_of head_words
theorem head_make : Try.prog.make = some .cut := make_of head_words
theorem head_later : (!(Try.prog).laysLater) = true := by kernel_rfl
theorem head_reflect : (!(Try.prog).bearsReflect) = true := by kernel_rfl
theorem head_doors : (Try.prog).doorFits [] = true := by kernel_rfl
theorem head_enter : Try.prog.mayEnter = true := enter_of head_words head_later head_reflect head_doors
end Go.Proofs.Ytcgafnmpfdkfoaa
