/- Layer 3: a frame's sector: frame.Encode. -/
import Derived.Test.YtcgafnmpfdkfoaaEnc
import Derived.Laws.Cover3
namespace Go.Proofs.Ytcgafnmpfdkfoaa
open Go.RowKit

/-- A frame's bytes, and its sector. -/
def frB (f : Fr) : List Int := le 1 f.kd ++ le 1 1 ++ le 2 f.zn ++ le 2 f.off ++ le 4 f.ep ++ le 6 f.sq ++ f.bd
def sect (f : Fr) : List Int := frB f ++ le 4 (sumN (frB f))
theorem frB_length {f : Fr} (h : f.Ok) : (frB f).length = 60 := by
  unfold Fr.Ok at h
  simp [frB, le_length, h]
theorem frB_byt {f : Fr} (h : Byt f.bd) : Byt (frB f) :=
  (((((((le_byt _ _).append (le_byt _ _)).append (le_byt _ _)).append (le_byt _ _)).append (le_byt _ _)).append (le_byt _ _))).append h
theorem sect_length {f : Fr} (h : f.Ok) : (sect f).length = 64 := by rw [sect, List.length_append, frB_length h, le_length]
theorem sect_byt {f : Fr} (h : Byt f.bd) : Byt (sect f) := (frB_byt h).append (le_byt _ _)
theorem size_sector : (Try.prog.info? 89).map (·.size) = some 64 := by kernel_rfl
abbrev Z64 : Array Value := #[.int .u8 0, .int .u8 0, .int .u8 0, .int .u8 0, .int .u8 0, .int .u8 0, .int .u8 0, .int .u8 0, .int .u8 0, .int .u8 0, .int .u8 0, .int .u8 0, .int .u8 0, .int .u8 0, .int .u8 0, .int .u8 0, .int .u8 0, .int .u8 0, .int .u8 0, .int .u8 0, .int .u8 0, .int .u8 0, .int .u8 0, .int .u8 0, .int .u8 0, .int .u8 0, .int .u8 0, .int .u8 0, .int .u8 0, .int .u8 0, .int .u8 0, .int .u8 0, .int .u8 0, .int .u8 0, .int .u8 0, .int .u8 0, .int .u8 0, .int .u8 0, .int .u8 0, .int .u8 0, .int .u8 0, .int .u8 0, .int .u8 0, .int .u8 0, .int .u8 0, .int .u8 0, .int .u8 0, .int .u8 0, .int .u8 0, .int .u8 0, .int .u8 0, .int .u8 0, .int .u8 0, .int .u8 0, .int .u8 0, .int .u8 0, .int .u8 0, .int .u8 0, .int .u8 0, .int .u8 0, .int .u8 0, .int .u8 0, .int .u8 0, .int .u8 0]
/-- What stands while the pen writes. -/
structure EnAt (w : World) (f : Fr) (zs : Array Value) (p : Nat) (xs : List Int) (W : World) : Prop where
  t : Blk W w.heap.size 83 tabV
  y : Blk W (w.heap.size + 1) 64 f.arr
  z : Blk W (w.heap.size + 2) 89 zs
  pen : PenAt p W p xs
  u : Below w.heap.size w W
theorem EnAt.step {w : World} {f : Fr} {zs : Array Value} {p : Nat} {xs xs' : List Int} {W W' : World} (h : EnAt w f zs p xs W) (hp : w.heap.size ≤ p) (q : PenAt p W' p xs') (u : Below p W W') (k : PK W W') : EnAt w f zs p xs' W' :=
  ⟨k.blk h.t (by decide), k.blk h.y (by decide), k.blk h.z (by decide), q, h.u.trans (u.mono hp)⟩
theorem EnAt.grow {w : World} {f : Fr} {zs : Array Value} {p : Nat} {xs : List Int} {W W' : World} (h : EnAt w f zs p xs W) (k : Below W.heap.size W W') : EnAt w f zs p xs W' :=
  ⟨(Keeps.of_below (S := []) k).blk h.t.lt (by simp) h.t, (Keeps.of_below (S := []) k).blk h.y.lt (by simp) h.y, (Keeps.of_below (S := []) k).blk h.z.lt (by simp) h.z, h.pen.grow k, h.u.trans (k.mono h.u.size)⟩
set_option maxRecDepth 100000 in
set_option maxHeartbeats 1000000 in
theorem frame_encode (w : World) (f : Fr) (hf : f.right = true) (hk : f.Ok) (hb : Byt f.bd) :
    Calls Try.prog 92 #[.agg tabV, f.v] w fun r w' => r = .returned (.tuple #[.agg (bys (sect f)).toArray, .int .i64 0]) ∧ Below w.heap.size w w' := by
  have hr : (((1 ≤ f.kd ∧ f.kd ≤ 5) ∧ (0 ≤ f.zn ∧ f.zn ≤ 65535)) ∧ (0 ≤ f.off ∧ f.off ≤ 65535)) ∧ (1 ≤ f.ep ∧ f.ep ≤ 4294967295) ∧ (0 ≤ f.sq ∧ f.sq ≤ 281474976710655) := by
    have := hf
    unfold Fr.right at this
    simp only [Bool.and_eq_true, wi_true] at this
    omega
  have HR := Lib.hid hr
  have hfv : Hid (∀ W, Calls Try.prog 42 #[f.v] W fun e w' => e = .returned (.bool true) ∧ Below W.heap.size W w') := Lib.hid fun W => by rw [← hf]; exact frame_right f W
  have hsz : (Try.prog.info? 64).map (·.size) = some f.arr.size := by rw [Fr.size hk]; exact size_frame
  have HSZ := Lib.hid hsz
  clear hr hf hsz
  obtain ⟨V, hV⟩ : ∃ V, ((w.alloc (.cells tabV 83)).alloc (.cells f.arr 64)).alloc (.cells Z64 89) = V := ⟨_, rfl⟩
  have b0 : Below w.heap.size w V := by rw [← hV]; exact ((below_box _ _).alloc (by simp) _).alloc (by simp; omega) _
  have k0 : Blk V w.heap.size 83 tabV := by rw [← hV]; exact ((Blk.newAt rfl).alloc _).alloc _
  have k1 : Blk V (w.heap.size + 1) 64 f.arr := by rw [← hV]; exact (Blk.newAt (by simp)).alloc _
  have k2 : Blk V (w.heap.size + 2) 89 Z64 := by rw [← hV]; exact Blk.newAt (by simp)
  have K0 := Lib.hid k0
  have K1 := Lib.hid k1
  have K2 := Lib.hid k2
  have B0 := Lib.hid b0
  clear b0 k0 k1 k2
  go_enter Try.func92, Try.ntmps92
  go_wp2_with (refine wpList_load_blk rfl 64 (.tmp 3) rfl (w.heap.size + 1) 0 rfl K1.out f.arr (row_whole f.arr) _ Try.underlying64 rfl HSZ.out ?_)
  clear hV
  refine (hfv.out V).mono ?_
  rintro r w1 ⟨rfl, hb1⟩
  obtain ⟨p, hp⟩ : ∃ p, w1.heap.size = p := ⟨_, rfl⟩
  obtain ⟨V0, hV0⟩ : ∃ V0, w1.alloc (.cells #[.slice none 0 0, .bool false] 208) = V0 := ⟨_, rfl⟩
  have c0 : Below V.heap.size V V0 := by rw [← hV0]; exact hb1.alloc hb1.size _
  have P0 : Hid (PenAt p V0 p []) := by rw [← hV0, ← hp]; exact Lib.hid (PenAt.made _)
  have N0 : w.heap.size ≤ p := by rw [← hp]; exact Nat.le_trans B0.out.size hb1.size
  have A0 : Hid (EnAt w f Z64 p [] V0) := Lib.hid ⟨(Keeps.of_below (S := []) c0).blk K0.out.lt (by simp) K0.out, (Keeps.of_below (S := []) c0).blk K1.out.lt (by simp) K1.out, (Keeps.of_below (S := []) c0).blk K2.out.lt (by simp) K2.out, P0.out, B0.out.trans (c0.mono B0.out.size)⟩
  obtain ⟨⟨h1a, h1b⟩, ⟨h2a, h2b⟩⟩ := HR.out.1.1
  obtain ⟨h3a, h3b⟩ := HR.out.1.2
  obtain ⟨⟨h4a, h4b⟩, ⟨h5a, h5b⟩⟩ := HR.out.2
  clear hb1 c0 P0
  obtain ⟨⟨y0, y1⟩, ⟨y2, y3⟩, y4⟩ := A0.out.y.fcells
  have yl := A0.out.y.lt
  go_wp2_with fail
  clear hV0
  clear hp
  refine (pen_num p V0 p _ 1 f.kd A0.out.pen (by omega) (by omega) (by omega) (by simp; try omega) (by simp)).mono ?_
  rintro r V1 ⟨rfl, q, u, kk⟩
  have A1 := Lib.hid (A0.out.step N0 q u kk)
  clear q u kk y0 y1 y2 y3 y4 yl
  obtain ⟨⟨y0, y1⟩, ⟨y2, y3⟩, y4⟩ := A1.out.y.fcells
  have yl := A1.out.y.lt
  go_wp2_with fail
  refine (pen_num p V1 p _ 1 1 A1.out.pen (by omega) (by omega) (by omega) (by simp; try omega) (by simp [le_length])).mono ?_
  rintro r V2 ⟨rfl, q, u, kk⟩
  have A2 := Lib.hid (A1.out.step N0 q u kk)
  clear q u kk y0 y1 y2 y3 y4 yl
  obtain ⟨⟨y0, y1⟩, ⟨y2, y3⟩, y4⟩ := A2.out.y.fcells
  have yl := A2.out.y.lt
  go_wp2_with fail
  refine (pen_num p V2 p _ 2 f.zn A2.out.pen (by omega) (by omega) (by omega) (by simp; try omega) (by simp [le_length])).mono ?_
  rintro r V3 ⟨rfl, q, u, kk⟩
  have A3 := Lib.hid (A2.out.step N0 q u kk)
  clear q u kk y0 y1 y2 y3 y4 yl
  obtain ⟨⟨y0, y1⟩, ⟨y2, y3⟩, y4⟩ := A3.out.y.fcells
  have yl := A3.out.y.lt
  go_wp2_with fail
  refine (pen_num p V3 p _ 2 f.off A3.out.pen (by omega) (by omega) (by omega) (by simp; try omega) (by simp [le_length])).mono ?_
  rintro r V4 ⟨rfl, q, u, kk⟩
  have A4 := Lib.hid (A3.out.step N0 q u kk)
  clear q u kk y0 y1 y2 y3 y4 yl
  obtain ⟨⟨y0, y1⟩, ⟨y2, y3⟩, y4⟩ := A4.out.y.fcells
  have yl := A4.out.y.lt
  go_wp2_with fail
  refine (pen_num p V4 p _ 4 f.ep A4.out.pen (by omega) (by omega) (by omega) (by simp; try omega) (by simp [le_length])).mono ?_
  rintro r V5 ⟨rfl, q, u, kk⟩
  have A5 := Lib.hid (A4.out.step N0 q u kk)
  clear q u kk y0 y1 y2 y3 y4 yl
  obtain ⟨⟨y0, y1⟩, ⟨y2, y3⟩, y4⟩ := A5.out.y.fcells
  have yl := A5.out.y.lt
  go_wp2_with fail
  refine (pen_num p V5 p _ 6 f.sq A5.out.pen (by omega) (by omega) (by omega) (by simp; try omega) (by simp [le_length])).mono ?_
  rintro r V6 ⟨rfl, q, u, kk⟩
  have A6 := Lib.hid (A5.out.step N0 q u kk)
  clear q u kk y0 y1 y2 y3 y4 yl
  obtain ⟨⟨y0, y1⟩, ⟨y2, y3⟩, y4⟩ := A6.out.y.fcells
  have yl := A6.out.y.lt
  go_wp2_with fail
  have hy : ∀ j v, f.bd[j]? = some v → V6.cell? ⟨w.heap.size + 1, 5 + j, none⟩ = some (.int .u8 v) := fun j v hv => by
    have hj := (List.getElem?_eq_some_iff.1 hv).1
    rw [A6.out.y.cell]
    unfold Fr.arr
    rw [Array.getElem?_append_right (by simp)]
    simp [bys, hv]
  have hk44 : f.bd.length = 44 := hk
  refine (pen_bytes p V6 p _ A6.out.pen (by simp [le_length]) (w.heap.size + 1) 5 44 44 f.bd hk44 (by omega) (by omega) hy).mono ?_
  rintro r V7 ⟨rfl, q, u, kk⟩
  have A7 := Lib.hid (A6.out.step N0 q u kk)
  clear q u kk y0 y1 y2 y3 y4 yl hy
  go_wp2_with fail
  have hxs : ([] : List Int) ++ le 1 f.kd ++ le 1 1 ++ le 2 f.zn ++ le 2 f.off ++ le 4 f.ep ++ le 6 f.sq ++ f.bd = frB f := by simp [frB]
  rw [hxs] at A7
  have H60 := Lib.hid (frB_length hk)
  refine (pen_out p V7 p (frB f) A7.out.pen (by have := H60.out; omega) (by have := H60.out; omega)).mono ?_
  rintro r V8 ⟨g8, c8, rfl, hL8, hb8⟩
  have A8 := Lib.hid (A7.out.grow hb8)
  have L8 := Lib.hid hL8
  clear hb8 hL8
  have hszT : (Try.prog.info? 83).map (·.size) = some tabV.size := by rw [tabV_size]; exact size_table
  have HSZT := Lib.hid hszT
  have BY8 : Hid (BysAt V8 (some ⟨g8, 0, none⟩) (frB f).length c8 (frB f)) := by
    obtain ⟨A9, c9, e, hB⟩ := bys_of_own L8.out rfl (frB_byt hb)
    simp only [Value.slice.injEq] at e
    obtain ⟨rfl, _, rfl⟩ := e
    exact Lib.hid hB
  clear hszT
  go_wp2_with (refine wpList_load_blk rfl 83 (.tmp 2) rfl w.heap.size 0 rfl A8.out.t tabV (row_whole tabV) _ Try.underlying83 rfl HSZT.out ?_)
  refine (crc_seal V8 g8 c8 (frB f) BY8.out (by have := H60.out; omega) (by have := H60.out; omega)).mono ?_
  rintro r V9 ⟨g9, c9, rfl, hL9, hb9⟩
  have A9 := Lib.hid (A8.out.grow hb9)
  have L9 := Lib.hid hL9
  clear hb9 hL9
  rw [H60.out]
  obtain ⟨D, hD⟩ : ∃ D : Array Value, Hid ((bys (sect f)).toArray = D) := ⟨_, Lib.hid rfl⟩
  have hDs : D.size = 64 := by rw [← hD.out, List.size_toArray, bys_length, sect_length hk]
  have hR9 : V9.rangeAt g9 0 D.toList := by
    intro j v hv
    rw [← hD.out] at hv
    have hj := (List.getElem?_eq_some_iff.1 hv).1
    have h64 := sect_length hk
    simp [bys, h64] at hj
    have hl := L9.out
    rw [H60.out] at hl
    rw [Nat.zero_add, hl.cellAt j (by omega)]
    simpa [sect] using hv
  have hDi : (Try.prog.info? 89).map (·.size) = some D.size := by rw [hDs]; exact size_sector
  have hDi' : (Try.prog.info? 89).map (·.size) = some D.toList.length := by rw [Array.length_toList, hDs]; exact size_sector
  have hD1 : D.all (·.oneCell') = true := by rw [← hD.out]; exact all_oneCell_toArray (bys_one _)
  have R9 := Lib.hid hR9
  have DI := Lib.hid hDi
  have DI' := Lib.hid hDi'
  have D1 := Lib.hid hD1
  have DS := Lib.hid hDs
  have hc9 : 64 ≤ c9 := by have h := own_is' L9.out; have := H60.out; omega
  have harr : ∀ W : World, (Instr.arrayAt 89 (.slice (some ⟨g9, 0, none⟩) 64 c9)).run Try.prog W = .ok (.pointer (some ⟨g9, 0, none⟩)) W := fun W => run_arrayAt W 89 _ 64 _ 64 c9 Try.underlying89 (Nat.le_refl _)
  clear hR9 hDi hDi' hD1 hDs
  go_wp2_with (first
    | (refine wpList_load_mid rfl 89 (.tmp 43) rfl g9 0 rfl D.toList _ R9.out Try.underlying89 rfl DI'.out ?_)
    | (refine wpList_store_blk rfl 89 (.tmp 4) (.tmp 44) rfl (w.heap.size + 2) 0 D rfl rfl A9.out.z (by rw [DS.out]; decide) DI.out D1.out ?_; intro W8 hG8 hK8 hs8))
  have hG := hG8.out
  rw [over_all (by rw [DS.out]; rfl)] at hG
  have r1 : (loadVar 89 ⟨w.heap.size + 2, 0, none⟩).run Try.prog W8 = .ok (.agg D) W8 := run_loadVar_row _ _ _ _ _ _ _ hG Try.underlying89 rfl DI.out
  refine bodyPost_ret (v := .tuple #[.agg D, .int .i64 0]) ?_ rfl ⟨by rw [hD.out], ?_⟩
  · simp [results, Try.results92, asAddr, r1]
  · exact A9.out.u.trans (Keeps.below (hK8.out.mono A9.out.u.size (fun _ h => h)) (by simp))
end Go.Proofs.Ytcgafnmpfdkfoaa
