/- Layer 13: a copy's sectors: ckpt.Sectors. -/
import Derived.Test.YtcgafnmpfdkfoaaEnc2
import Derived.Test.YtcgafnmpfdkfoaaSame12
namespace Go.Proofs.Ytcgafnmpfdkfoaa
open Go.RowKit

theorem sec_fold (F : Array Value) (hF : F.size = 64) :
    Array.foldl (fun cs (x : Value × Nat) => cs.setIfInBounds x.snd x.fst) #[.int .u8 0, .int .u8 0, .int .u8 0, .int .u8 0, .int .u8 0, .int .u8 0, .int .u8 0, .int .u8 0, .int .u8 0, .int .u8 0, .int .u8 0, .int .u8 0, .int .u8 0, .int .u8 0, .int .u8 0, .int .u8 0, .int .u8 0, .int .u8 0, .int .u8 0, .int .u8 0, .int .u8 0, .int .u8 0, .int .u8 0, .int .u8 0, .int .u8 0, .int .u8 0, .int .u8 0, .int .u8 0, .int .u8 0, .int .u8 0, .int .u8 0, .int .u8 0, .int .u8 0, .int .u8 0, .int .u8 0, .int .u8 0, .int .u8 0, .int .u8 0, .int .u8 0, .int .u8 0, .int .u8 0, .int .u8 0, .int .u8 0, .int .u8 0, .int .u8 0, .int .u8 0, .int .u8 0, .int .u8 0, .int .u8 0, .int .u8 0, .int .u8 0, .int .u8 0, .int .u8 0, .int .u8 0, .int .u8 0, .int .u8 0, .int .u8 0, .int .u8 0, .int .u8 0, .int .u8 0, .int .u8 0, .int .u8 0, .int .u8 0, .int .u8 0] F.zipIdx 0 64 = F := by
  have h := fold_over F 0 Z64 (by rw [hF]; exact Nat.le_refl 64)
  rw [over_all (by rw [hF]; rfl)] at h
  simp [hF] at h
  exact h
def secV (f : Fr) : Array Value := (bys (sect f)).toArray
theorem secV_size {f : Fr} (h : f.Ok) : (secV f).size = 64 := by rw [secV, List.size_toArray, bys_length, sect_length h]
theorem secV_one (f : Fr) : (secV f).all (·.oneCell') = true := all_oneCell_toArray (bys_one _)
def flatS (fs : List Fr) : List Value := fs.flatMap fun f => bys (sect f)
theorem flatS_snoc (fs : List Fr) (k : Nat) (f : Fr) (h : fs[k]? = some f) : flatS (fs.take (k + 1)) = flatS (fs.take k) ++ bys (sect f) := by
  rw [List.take_add_one, h]; simp [flatS]
theorem flatS_length {fs : List Fr} (h : ∀ f ∈ fs, f.Ok) : (flatS fs).length = fs.length * 64 := by
  induction fs with
  | nil => rfl
  | cons x r ih =>
    rw [show flatS (x :: r) = bys (sect x) ++ flatS r from rfl, List.length_append, ih (fun f hf => h f (List.mem_cons_of_mem _ hf)), bys_length, sect_length (h x (by simp)), List.length_cons]
    omega
theorem info_sector : (Try.prog.info? 89).map (fun i => (i.zero, i.size, i.bytes)) = some (some (.agg Z64), 64, 64) := by kernel_rfl
/-- Frames that may be. -/
def FsOk (fs : List Fr) : Prop := ∀ f ∈ fs, f.right = true ∧ f.Ok ∧ Byt f.bd
theorem frames_fsok {s : Sn} {g : G} {l : List E} {lv : List Int} (hM : MapOk g l lv) (hO : SnOk s g l) (z : Int) (hh : g.holds z 0 = true) : FsOk (frames s g l z) := by
  intro f hf
  have h1 := frames_ok s g l z f hf
  have hn := hO.nums
  obtain ⟨i, hi, rfl⟩ := List.mem_map.1 hf
  have hb : Byt (frameAt s g l z i).bd := by
    unfold frameAt
    split
    · exact headB_byt _ _
    · exact partB_byt _ _
  have hlen := hM.len
  have hS := (G.small_of_right hO.right).B1
  exact ⟨frame_right_true s g l z i (G.holds_range hh) hO.right (by have := List.mem_range.1 hi; unfold nparts at this; omega) ⟨by omega, by omega⟩ ⟨by omega, by omega⟩, h1, hb⟩
def SecsPost (w : World) (fs : List Fr) (r : Ending) (w' : World) : Prop :=
  ∃ v, r = .returned (.tuple #[v, .int .i64 0]) ∧ w'.ownsRow w.heap.size 89 64 v fs.length (flatS fs) ∧ Below w.heap.size w w'
theorem sectors_err (w : World) (p bl bv : Nat) (g : G) (l : List E) (lv : List Int) (s : Sn) (hM : MapAt w p bl bv g l lv) (hz : l.length ≤ 1000) (z : Int) (h : s.right l = false ∨ g.holds z 0 = false) :
    Calls Try.prog 52 #[.agg tabV, s.v p, .int .i64 z] w fun r w' => r = .returned (.tuple #[.slice none 0 0, .int .i64 10]) ∧ Below w.heap.size w w' := by
  obtain ⟨V, hV⟩ : ∃ V, (w.alloc (.cells tabV 83)).alloc (s.box p) = V := ⟨_, rfl⟩
  have b0 : Below w.heap.size w V := by rw [← hV]; exact (below_box _ _).alloc (by simp) _
  have k1 : Blk V (w.heap.size + 1) 53 (s.arr p) := by rw [← hV]; exact Blk.newAt (by simp)
  have HM := Lib.hid (hM.grow b0)
  have HB := Lib.hid b0
  have yl := k1.lt
  obtain ⟨⟨y0, y1⟩, y2, y3⟩ := k1.scells
  clear b0 k1
  go_enter Try.func52, Try.ntmps52
  go_wp2_with fail
  clear hV
  refine (frames_err V p bl bv g l lv s HM.out hz z h).mono ?_
  rintro r w1 ⟨rfl, hb1⟩
  have B1 := Lib.hid (HB.out.trans (hb1.mono HB.out.size))
  clear hb1 y0 y1 y2 y3
  go_wp2
  go_ret2
  exact ⟨rfl, B1.out⟩
set_option maxRecDepth 100000 in
set_option maxHeartbeats 1000000 in
theorem sectors_yes (w : World) (p bl bv : Nat) (g : G) (l : List E) (lv : List Int) (s : Sn) (hM : MapAt w p bl bv g l lv) (hK : MapOk g l lv) (hO : SnOk s g l) (z : Int) (hh : g.holds z 0 = true) :
    Calls Try.prog 52 #[.agg tabV, s.v p, .int .i64 z] w (SecsPost w (frames s g l z)) := by
  obtain ⟨V, hV⟩ : ∃ V, (w.alloc (.cells tabV 83)).alloc (s.box p) = V := ⟨_, rfl⟩
  have b0 : Below w.heap.size w V := by rw [← hV]; exact (below_box _ _).alloc (by simp) _
  have k0 : Blk V w.heap.size 83 tabV := by rw [← hV]; exact (Blk.newAt rfl).alloc _
  have k1 : Blk V (w.heap.size + 1) 53 (s.arr p) := by rw [← hV]; exact Blk.newAt (by simp)
  have HM := Lib.hid (hM.grow b0)
  have HB := Lib.hid b0
  have K0 := Lib.hid k0
  have yl := k1.lt
  obtain ⟨⟨y0, y1⟩, y2, y3⟩ := k1.scells
  have hfs := frames_fsok hK hO z hh
  have hn1000 : (frames s g l z).length ≤ 1000 := by have := hK.len1000; rw [frames_length]; unfold nparts; omega
  have hY := Lib.hid (frames_yes V p bl bv g l lv s HM.out hO z hh)
  generalize frames s g l z = fs at hY hfs hn1000 ⊢
  clear b0 k1 k0
  go_enter Try.func52, Try.ntmps52
  go_wp2_with fail
  clear hV
  refine hY.out.mono ?_
  rintro r w1 ⟨b1, c1, rfl, _, hL1, hb1⟩
  have L1 := Lib.hid hL1
  have T1 := Lib.hid ((Keeps.of_below (S := []) hb1).blk K0.out.lt (by simp) K0.out)
  have B1 := Lib.hid (HB.out.trans (hb1.mono HB.out.size))
  have HF := Lib.hid hfs
  have hc1 := own_is' hL1
  obtain ⟨hc11, hc12⟩ := hc1
  have hc13 : c1 ≤ 9223372036854775807 := by unfold maxLen at hc12; omega
  clear hb1 hL1 y0 y1 y2 y3 yl hfs hc12 HM K0 hO hK hM hY
  go_wp2
  go_loopw [10, 26] (fun v i wr => ∃ k : Nat, k ≤ fs.length ∧ i = .int .i64 k ∧ wr.ownsRow w1.heap.size 89 64 v k (flatS (fs.take k)) ∧ Below w1.heap.size w1 wr) (fun _ i _ => fs.length - (intOf i).toNat)
  case atStart => exact ⟨0, Nat.zero_le _, rfl, ⟨by simp [flatS], .inl ⟨rfl, rfl⟩⟩, Below.refl _ _⟩
  case round =>
    obtain ⟨k, hk, rfl, hown, hB⟩ := hrel
    have HB2 := Lib.hid hB
    have HO := Lib.hid hown
    by_cases hlt : k < fs.length
    · obtain ⟨f, hf⟩ : ∃ f, fs[k]? = some f := ⟨_, List.getElem?_eq_getElem hlt⟩
      obtain ⟨fr, fok, fby⟩ := HF.out f (List.mem_of_getElem? hf)
      have o5 := (own_grow L1.out hB).1
      have rX := rangeAt_row o5 (fun f hf => (HF.out f hf).2.1) hf
      have hszX := Fr.size fok
      have hiX : (Try.prog.info? 64).map (·.size) = some f.arr.size := by rw [hszX]; exact size_frame
      have hiX' : (Try.prog.info? 64).map (·.size) = some f.arr.toList.length := by rw [Array.length_toList, hszX]; exact size_frame
      have hst1 : ∀ W : World, (storeCells ⟨W.heap.size, 0, none⟩ f.arr.toList 0).run Try.prog (W.alloc (.cells Z49 64)) = .ok () (W.alloc (.cells f.arr 64)) := fun W => run_storeCells_new W 64 Z49 f.arr hiX (by rw [hszX]; rfl) (Fr.one f)
      obtain ⟨V9, hV9⟩ : ∃ V, wr.alloc (.cells f.arr 64) = V := ⟨_, rfl⟩
      have b9 : Below wr.heap.size wr V9 := by rw [← hV9]; exact below_box _ _
      have F9 : Blk V9 wr.heap.size 64 f.arr := by rw [← hV9]; exact Blk.newAt rfl
      have T9 := Lib.hid ((Keeps.of_below (S := []) (hB.trans (b9.mono hB.size))).blk T1.out.lt (by simp) T1.out)
      have HF9 := Lib.hid F9
      have B9 := Lib.hid (HB2.out.trans (b9.mono HB2.out.size))
      have O9 := Lib.hid (own_grow' hown b9)
      have RX := Lib.hid rX
      have HIX := Lib.hid hiX
      have HIX' := Lib.hid hiX'
      have hszT : (Try.prog.info? 83).map (·.size) = some tabV.size := by rw [tabV_size]; exact size_table
      have HSZT := Lib.hid hszT
      have HFF := Lib.hid hf
      have ENC : Hid (∀ W : World, Calls Try.prog 92 #[.agg tabV, .agg f.arr] W fun r w' => r = .returned (.tuple #[.agg (secV f), .int .i64 0]) ∧ Below W.heap.size W w') := Lib.hid fun W => frame_encode W f fr fok fby
      have SS := Lib.hid (secV_size fok)
      obtain ⟨D, hD⟩ : ∃ D, Hid (secV f = D) := ⟨_, Lib.hid rfl⟩
      have hDs : D.size = 64 := by rw [← hD.out]; exact SS.out
      have hDi : (Try.prog.info? 89).map (·.size) = some D.size := by rw [hDs]; exact size_sector
      have hD1 : D.all (·.oneCell') = true := by rw [← hD.out]; exact secV_one f
      have hst2 : ∀ W : World, (storeCells ⟨W.heap.size, 0, none⟩ D.toList 0).run Try.prog (W.alloc (.cells Z64 89)) = .ok () (W.alloc (.cells D 89)) := fun W => run_storeCells_new W 89 Z64 D hDi (by rw [hDs]; rfl) hD1
      have hsf := sec_fold D hDs
      generalize f.arr = X at *
      clear hiX hiX' o5 rX fok fby fr hf hB b9 F9 hszT hown hDi
      go_wp2_with (first
        | (refine wpList_load_mid rfl 64 (.tmp 28) rfl b1 (k * 49) rfl X.toList _ RX.out Try.underlying64 rfl HIX'.out ?_)
        | (refine wpList_load_blk rfl 83 (.tmp 3) rfl w.heap.size 0 rfl T9.out tabV (row_whole tabV) _ Try.underlying83 rfl HSZT.out ?_)
        | (refine wpList_load_blk rfl 64 (.tmp 12) rfl wr.heap.size 0 rfl HF9.out X (row_whole X) _ Try.underlying64 rfl HIX.out ?_))
      clear hV9 hst1
      refine (ENC.out V9).mono ?_
      rintro r w4 ⟨rfl, hb4⟩
      rw [hD.out]
      have B4 := Lib.hid (B9.out.trans (hb4.mono B9.out.size))
      have O4 := Lib.hid (own_grow' O9.out hb4)
      obtain ⟨V5, hV5⟩ : ∃ V, w4.alloc (.cells D 89) = V := ⟨_, rfl⟩
      have b5 : Below w4.heap.size w4 V5 := by rw [← hV5]; exact below_box _ _
      have F5 : Hid (Blk V5 w4.heap.size 89 D) := Lib.hid (by rw [← hV5]; exact Blk.newAt rfl)
      have B5 := Lib.hid (B4.out.trans (b5.mono B4.out.size))
      have O5 := Lib.hid (own_grow' O4.out b5)
      obtain ⟨V6, hV6⟩ : ∃ V, V5.alloc (.cells D 89) = V := ⟨_, rfl⟩
      have b6 : Below V5.heap.size V5 V6 := by rw [← hV6]; exact below_box _ _
      have B6 := Lib.hid (B5.out.trans (b6.mono B5.out.size))
      have O6 := Lib.hid (own_grow' O5.out b6)
      have X6 : Hid (∀ j v, D.toList[j]? = some v → V6.cell? ((⟨V5.heap.size, 0, none⟩ : Addr).add j) = some v) := Lib.hid fun j v hv => by
        rw [add_at, Nat.zero_add, ← hV6, cell_of_row _ _ j D _ (0, 0) (heap_alloc_new V5 _)]
        simpa using hv
      have hDi : (Try.prog.info? 89).map (·.size) = some D.size := by rw [hDs]; exact size_sector
      have HDI := Lib.hid hDi
      have HDS := Lib.hid hDs
      have H1D := Lib.hid hD1
      obtain ⟨i0, hi, hz0, hz1, hz2⟩ := info_parts info_sector
      clear hb4 b5 b6 hDi hD1
      go_wp2_with (first
        | (refine wpList_load_blk rfl 89 (.tmp 13) rfl w4.heap.size 0 rfl F5.out D (row_whole D) _ Try.underlying89 rfl HDI.out ?_)
        | (at_builtin; refine Hid.out ?_))
      refine Lib.hid ?_
      refine wpList_append_own _ rfl _ _ 85 rfl w1.heap.size 89 i0 (.agg Z64) 64 64 Try.underlying85 hi hz0 hz1 hz2 rfl (by omega) u10 k (flatS (fs.take k)) rfl O6.out ⟨V5.heap.size, 0, none⟩ 1 1 D.toList rfl (by rw [Array.length_toList, HDS.out]) X6.out (fun v hv => (Array.all_eq_true_iff_forall_mem.1 H1D.out) v (by simpa using hv)) (by unfold maxLen; omega) (by omega) (by have := B6.out.size; omega) ?_
      intro v' w10 hown' hgrow hnil
      have B10 := Lib.hid (B6.out.grown hgrow B6.out.size (fun j ej => (World.ownsRow.lt O6.out j ej).1))
      have O10 : Hid (w10.ownsRow w1.heap.size 89 64 v' (k + 1) (flatS (fs.take (k + 1)))) := Lib.hid (by
        rw [flatS_snoc _ _ _ HFF.out]
        have e : bys (sect f) = D.toList := by rw [← hD.out]; rfl
        rw [e]; exact hown')
      clear hown' hgrow hnil hV5 hV6 hst2 hsf
      go_wp2
      go_roundw
      case rel => exact ⟨k + 1, by omega, by simp, O10.out, B10.out⟩
      case measure => simp [intOf]; omega
    · obtain rfl : k = fs.length := by omega
      rw [List.take_of_length_le (Nat.le_refl _)] at HO
      clear hB hown
      go_wp2
      go_ret2
      refine ⟨u10, rfl, ?_, B1.out.trans (HB2.out.mono B1.out.size)⟩
      refine ⟨HO.out.1, ?_⟩
      rcases HO.out.2 with h' | ⟨g', c', cur, e1, e2, e3⟩
      · exact .inl h'
      · exact .inr ⟨g', c', cur, e1, Nat.le_trans B1.out.size e2, e3⟩
end Go.Proofs.Ytcgafnmpfdkfoaa
