/- What a snapshot's frames bear (layer 12): a part's body. -/
import Derived.Test.YtcgafnmpfdkfoaaSnap1
namespace Go.Proofs.Ytcgafnmpfdkfoaa
open Go.RowKit

/-- The entry of a block; nothing, if there is none. -/
def getE (l : List E) (b : Int) : E := if 0 ≤ b then l.getD b.toNat E0 else E0
def getCode (l : List E) (b : Int) : Int := if 0 ≤ b ∧ b < l.length then 0 else 13
theorem map_getE (w : World) (p bl bv : Nat) (g : G) (l : List E) (lv : List Int) (h : MapAt w p bl bv g l lv) (b : Int) :
    Calls Try.prog 30 #[.pointer (some ⟨p, 0, none⟩), .int .i64 b] w fun r w' => r = .returned (.tuple #[(getE l b).v, .int .i64 (getCode l b)]) ∧ Below w.heap.size w w' := by
  by_cases hb : 0 ≤ b ∧ b < l.length
  · have he : l[b.toNat]? = some l[b.toNat] := List.getElem?_eq_getElem (by omega)
    have h1 : getE l b = l[b.toNat] := by unfold getE; rw [if_pos hb.1, List.getD_eq_getElem?_getD, he]; rfl
    have h2 : getCode l b = 0 := by unfold getCode; rw [if_pos hb]
    rw [h1, h2]
    exact map_get w p bl bv g l lv h b _ hb.1 he
  · have h1 : getE l b = E0 := by
      unfold getE
      split
      · rw [List.getD_eq_getElem?_getD, List.getElem?_eq_none (by omega)]; rfl
      · rfl
    have h2 : getCode l b = 13 := by unfold getCode; rw [if_neg hb]
    rw [h1, h2]
    exact map_get_no w p bl bv g l lv h b (by omega)
theorem getE_fits {l : List E} (hl : ∀ e ∈ l, e.Fits) (b : Int) : (getE l b).Fits := by
  unfold getE
  split
  · rw [List.getD_eq_getElem?_getD]
    cases hj : l[b.toNat]? with
    | none => exact E0_fits
    | some e => exact hl e (List.mem_of_getElem? hj)
  · exact E0_fits
/-- The bytes of the first k of two entries, from a block on. -/
def ents (l : List E) (b : Int) : Nat → List Int
  | 0 => []
  | k + 1 => ents l b k ++ entB (getE l (b + k))
theorem ents_length (l : List E) (b : Int) (k : Nat) : (ents l b k).length = 16 * k := by
  induction k with
  | zero => rfl
  | succ k ih => simp only [ents, List.length_append, entB_length, ih]; omega
theorem partB_ents (l : List E) (i : Nat) (h : 1 ≤ i) : pad44 (le 1 i ++ ents l (2 * ((i : Int) - 1)) 2) = partB l i := by
  unfold partB ents ents ents getE
  rw [if_pos (by omega), if_pos (by omega), show (2 * ((i : Int) - 1) + ((0 : Nat) : Int)).toNat = 2 * (i - 1) by omega, show (2 * ((i : Int) - 1) + ((1 : Nat) : Int)).toNat = 2 * (i - 1) + 1 by omega, List.nil_append, List.append_assoc]

set_option maxRecDepth 100000 in
set_option maxHeartbeats 1000000 in
theorem snap_part (w : World) (p bl bv : Nat) (g : G) (l : List E) (lv : List Int) (s : Sn) (hM : MapAt w p bl bv g l lv) (hf : ∀ e ∈ l, e.Fits) (i : Nat) (i1 : 1 ≤ i) (i2 : i ≤ 200) :
    Calls Try.prog 81 #[s.v p, .int .i64 i] w fun r w' => r = .returned (.agg (bys (partB l i)).toArray) ∧ Below w.heap.size w w' := by
  obtain ⟨V0, hV0⟩ : ∃ V0, ((w.alloc (s.box p)).alloc (.cells Z44 62)).alloc (.cells #[.slice none 0 0, .bool false] 208) = V0 := ⟨_, rfl⟩
  have hs2 : ((w.alloc (s.box p)).alloc (.cells Z44 62)).heap.size = w.heap.size + 2 := by simp
  have U0 : Below w.heap.size w V0 := by rw [← hV0]; exact ((below_box w _).alloc (by simp) _).alloc (by simp <;> omega) _
  have Y0 : Blk V0 w.heap.size 53 (s.arr p) := by rw [← hV0]; exact ((Blk.newAt rfl).alloc _).alloc _
  have Z0 : Blk V0 (w.heap.size + 1) 62 Z44 := by rw [← hV0]; exact (Blk.newAt (by simp)).alloc _
  have P0 : PenAt (w.heap.size + 2) V0 (w.heap.size + 2) [] := by rw [← hV0, ← hs2]; exact PenAt.made _
  have HM := Lib.hid (hM.grow U0)
  have HY := Lib.hid Y0
  have HZ := Lib.hid Z0
  have HU := Lib.hid U0
  have HP := Lib.hid P0
  have HF := Lib.hid hf
  clear hM U0 Y0 Z0 P0 hs2 hf
  go_enter Try.func81, Try.ntmps81
  go_wp2_with fail
  clear hV0
  refine (pen_num (w.heap.size + 2) V0 (w.heap.size + 2) _ 1 i HP.out (by omega) (by omega) (by omega) (by simp; omega) (by simp)).mono ?_
  rintro r V1 ⟨rfl, q, u, k⟩
  have P1 := Lib.hid q
  have U1 := Lib.hid u
  have K1 := Lib.hid k
  clear q u k
  go_wp2
  go_loopw [14] (fun c wr => ∃ k : Nat, k ≤ 2 ∧ c = .int .i64 k ∧ PenAt (w.heap.size + 2) wr (w.heap.size + 2) (le 1 i ++ ents l (2 * ((i : Int) - 1)) k) ∧ Below (w.heap.size + 2) V0 wr ∧ PK V0 wr) (fun c _ => 2 - (intOf c).toNat)
  case atStart => exact ⟨0, by omega, rfl, by simpa [ents] using P1.out, U1.out, K1.out⟩
  case round =>
    obtain ⟨k, hk, rfl, hP, hU, hK⟩ := hrel
    have hp := hP.lt.2
    have HPr := Lib.hid hP
    have HUr := Lib.hid hU
    have HKr := Lib.hid hK
    clear hP hU hK
    by_cases hlt : k < 2
    · have Yr := HKr.out.blk HY.out (by decide)
      obtain ⟨⟨y0, y1⟩, y2, y3⟩ := Yr.scells
      have HYr := Lib.hid Yr
      clear Yr
      go_wp2_with fail
      refine (map_getE wr p bl bv g l lv (HM.out.tkeeps HKr.out (by decide) (by decide) (by decide)) _).mono ?_
      rintro r w1 ⟨rfl, hb1⟩
      have hfit := getE_fits HF.out (2 * ((i : Int) - 1) + k)
      have hsnoc : le 1 i ++ ents l (2 * ((i : Int) - 1)) (k + 1) = le 1 i ++ ents l (2 * ((i : Int) - 1)) k ++ entB (getE l (2 * ((i : Int) - 1) + k)) := by simp only [ents, List.append_assoc]
      generalize getE l (2 * ((i : Int) - 1) + k) = e at hfit hsnoc
      have HS := Lib.hid hsnoc
      obtain ⟨w2, hw2⟩ : ∃ w2, w1.alloc e.box = w2 := ⟨_, rfl⟩
      have b2 : Below wr.heap.size wr w2 := by rw [← hw2]; exact hb1.alloc hb1.size _
      have E2 : Blk w2 w1.heap.size 31 e.arr := by rw [← hw2]; exact Blk.newAt rfl
      have P2 := Lib.hid (HPr.out.grow b2)
      have U2 := Lib.hid (HUr.out.trans (b2.mono (by omega)))
      have K2 : Hid (PK V0 w2) := Lib.hid (HKr.out.trans (TKeeps.of_below b2))
      obtain ⟨⟨a0, a1⟩, ⟨a2, a3⟩, a4, a5⟩ := EntBlk.cells E2
      clear hsnoc y0 y1 y2 y3 hb1 b2 E2
      go_wp2_with fail
      clear hw2
      refine (snap_put _ w2 _ _ e P2.out hfit (by rw [List.length_append, le_length, ents_length]; omega)).mono ?_
      rintro r w3 ⟨rfl, q, u, kk⟩
      have P3 := Lib.hid q
      have U3 := Lib.hid (U2.out.trans u)
      have K3 := Lib.hid (K2.out.trans kk)
      clear q u kk a0 a1 a2 a3 a4 a5
      go_wp2
      go_round
      case rel => exact ⟨k + 1, by omega, by simp, by rw [HS.out]; exact P3.out, U3.out, K3.out⟩
      case measure => simp [intOf]; omega
    · obtain rfl : k = 2 := by omega
      go_wp2_with fail
      refine (snap_body (w.heap.size + 2) wr (w.heap.size + 2) _ HPr.out (by simp [le_length]) (by rw [List.length_append, le_length, ents_length]; omega)).mono ?_
      rintro r V8 ⟨rfl, u⟩
      rw [partB_ents l i i1]
      have X8 := Lib.hid ((TKeeps.of_below (T := [208, 5]) u).blk (HKr.out.blk HZ.out (by decide)) (by decide))
      have L8 := Lib.hid (HUr.out.trans (u.mono (by omega)))
      obtain ⟨D, hD⟩ : ∃ D : Array Value, (bys (partB l i)).toArray = D := ⟨_, rfl⟩
      have hDs : D.size = 44 := by rw [← hD, List.size_toArray, bys_length, partB_length]
      have hDi : (Try.prog.info? 62).map (·.size) = some D.size := by rw [hDs]; exact size_body
      have hD1 : D.all (·.oneCell') = true := by rw [← hD]; exact all_oneCell_toArray (bys_one _)
      rw [hD]
      have HDD := Lib.hid hD
      have HDI := Lib.hid hDi
      have HDS := Lib.hid hDs
      have HD1 := Lib.hid hD1
      clear u hD hDs hDi hD1
      go_wp2_with (refine wpList_store_blk rfl 62 (.tmp 4) (.tmp 33) rfl (w.heap.size + 1) 0 D rfl rfl X8.out (by rw [HDS.out]; decide) HDI.out HD1.out ?_; intro w3 hG3 hK3 hs3)
      refine bodyPost_ret (v := .agg D) (results_cell_row Try.results81 _ _ (w.heap.size + 1) 62 D (0, 0) _ (by simp [Act.put]) (by have := hG3.out; rwa [over_all (by rw [HDS.out]; rfl)] at this) Try.underlying62 rfl HDI.out) rfl ?_
      refine ⟨by rw [HDD.out], ?_⟩
      refine (HU.out.trans (L8.out.mono (by omega))).trans (Keeps.below (hK3.out.mono ?_ (fun i hi => hi)) (by simp))
      have := HU.out.size; have := L8.out.size
      omega
end Go.Proofs.Ytcgafnmpfdkfoaa
