/- A snapshot is read from its own frames: the plain law. -/
import Derived.Test.YtcgafnmpfdkfoaaMixed0
namespace Go.Proofs.Ytcgafnmpfdkfoaa
open Go.RowKit

theorem take_le (k : Nat) (v : Int) (R : List Int) : (le k v ++ R).take k = le k v := List.take_left' (le_length k v)
theorem drop_le (k : Nat) (v : Int) (R : List Int) : (le k v ++ R).drop k = R := List.drop_left' (le_length k v)
theorem unEnt_entB (e : E) (he : e.Fits) (zs : List Int) : unEnt (entB e ++ zs) = e := by
  have h : entB e ++ zs = le 1 e.st ++ (le 2 e.zn ++ (le 2 e.mt ++ (le 1 e.off ++ (le 6 e.sq ++ (le 4 e.sm ++ zs))))) := by simp [entB]
  rw [h]
  generalize hR : le 1 e.st ++ (le 2 e.zn ++ (le 2 e.mt ++ (le 1 e.off ++ (le 6 e.sq ++ (le 4 e.sm ++ zs))))) = ys
  have d1 : ys.drop 1 = le 2 e.zn ++ (le 2 e.mt ++ (le 1 e.off ++ (le 6 e.sq ++ (le 4 e.sm ++ zs)))) := by rw [← hR]; exact drop_le _ _ _
  have d3 : ys.drop 3 = le 2 e.mt ++ (le 1 e.off ++ (le 6 e.sq ++ (le 4 e.sm ++ zs))) := by rw [show (3 : Nat) = 1 + 2 by rfl, ← List.drop_drop, d1]; exact drop_le _ _ _
  have d5 : ys.drop 5 = le 1 e.off ++ (le 6 e.sq ++ (le 4 e.sm ++ zs)) := by rw [show (5 : Nat) = 3 + 2 by rfl, ← List.drop_drop, d3]; exact drop_le _ _ _
  have d6 : ys.drop 6 = le 6 e.sq ++ (le 4 e.sm ++ zs) := by rw [show (6 : Nat) = 5 + 1 by rfl, ← List.drop_drop, d5]; exact drop_le _ _ _
  have d12 : ys.drop 12 = le 4 e.sm ++ zs := by rw [show (12 : Nat) = 6 + 6 by rfl, ← List.drop_drop, d6]; exact drop_le _ _ _
  have t0 : ys.take 1 = le 1 e.st := by rw [← hR]; exact take_le _ _ _
  unfold unEnt
  rw [d1, d3, d5, d6, d12, t0, take_le, take_le, take_le, take_le, take_le, unle_le 1 e.st he.st.1 he.st.2, unle_le 2 e.zn he.zn.1 he.zn.2, unle_le 2 e.mt he.mt.1 he.mt.2, unle_le 1 e.off he.off.1 he.off.2, unle_le 6 e.sq he.sq.1 he.sq.2, unle_le 4 e.sm he.sm.1 he.sm.2]
theorem unGeo_headB (g : G) (nx : Int) (hg : g.Small) : unGeo (headB g nx) = g := by
  have h : headB g nx = le 6 nx ++ (le 1 g.D ++ (le 1 g.Z ++ (le 1 g.S ++ (le 2 g.B ++ (le 1 g.P ++ (le 1 g.O ++ List.replicate (44 - 13) 0)))))) := by simp [headB, pad44, le_length]
  rw [h]
  generalize hR : le 6 nx ++ (le 1 g.D ++ (le 1 g.Z ++ (le 1 g.S ++ (le 2 g.B ++ (le 1 g.P ++ (le 1 g.O ++ List.replicate (44 - 13) 0)))))) = ys
  have d6 : ys.drop 6 = le 1 g.D ++ (le 1 g.Z ++ (le 1 g.S ++ (le 2 g.B ++ (le 1 g.P ++ (le 1 g.O ++ List.replicate (44 - 13) 0))))) := by rw [← hR]; exact drop_le _ _ _
  have d7 : ys.drop 7 = le 1 g.Z ++ (le 1 g.S ++ (le 2 g.B ++ (le 1 g.P ++ (le 1 g.O ++ List.replicate (44 - 13) 0)))) := by rw [show (7 : Nat) = 6 + 1 by rfl, ← List.drop_drop, d6]; exact drop_le _ _ _
  have d8 : ys.drop 8 = le 1 g.S ++ (le 2 g.B ++ (le 1 g.P ++ (le 1 g.O ++ List.replicate (44 - 13) 0))) := by rw [show (8 : Nat) = 7 + 1 by rfl, ← List.drop_drop, d7]; exact drop_le _ _ _
  have d9 : ys.drop 9 = le 2 g.B ++ (le 1 g.P ++ (le 1 g.O ++ List.replicate (44 - 13) 0)) := by rw [show (9 : Nat) = 8 + 1 by rfl, ← List.drop_drop, d8]; exact drop_le _ _ _
  have d11 : ys.drop 11 = le 1 g.P ++ (le 1 g.O ++ List.replicate (44 - 13) 0) := by rw [show (11 : Nat) = 9 + 2 by rfl, ← List.drop_drop, d9]; exact drop_le _ _ _
  have d12 : ys.drop 12 = le 1 g.O ++ List.replicate (44 - 13) 0 := by rw [show (12 : Nat) = 11 + 1 by rfl, ← List.drop_drop, d11]; exact drop_le _ _ _
  have := hg.D0; have := hg.D1; have := hg.Z0; have := hg.Z1; have := hg.S0; have := hg.S1; have := hg.B0; have := hg.B1; have := hg.P0; have := hg.P1; have := hg.O0; have := hg.O1
  unfold unGeo
  rw [d6, d7, d8, d9, d11, d12, take_le, take_le, take_le, take_le, take_le, take_le, unle_le 1 g.D (by omega) (by omega), unle_le 1 g.Z (by omega) (by omega), unle_le 1 g.S (by omega) (by omega), unle_le 2 g.B (by omega) (by omega), unle_le 1 g.P (by omega) (by omega), unle_le 1 g.O (by omega) (by omega)]
theorem unNx_headB (g : G) (nx : Int) (h0 : 0 ≤ nx) (h1 : nx < 281474976710656) : unNx (headB g nx) = nx := by
  have h : headB g nx = le 6 nx ++ (le 1 g.D ++ (le 1 g.Z ++ (le 1 g.S ++ (le 2 g.B ++ (le 1 g.P ++ (le 1 g.O ++ List.replicate (44 - 13) 0)))))) := by simp [headB, pad44, le_length]
  unfold unNx
  rw [h, take_le, unle_le 6 nx h0 h1]
theorem unPart_partB (l : List E) (i : Nat) (h0 : (l.getD (2 * (i - 1)) E0).Fits) (h1 : (l.getD (2 * (i - 1) + 1) E0).Fits) : unPart (partB l i) = [l.getD (2 * (i - 1)) E0, l.getD (2 * (i - 1) + 1) E0] := by
  obtain ⟨zs, hz⟩ : ∃ zs, partB l i = le 1 i ++ (entB (l.getD (2 * (i - 1)) E0) ++ (entB (l.getD (2 * (i - 1) + 1) E0) ++ zs)) := ⟨_, by simp only [partB, pad44, List.append_assoc]; rfl⟩
  have d1 : (partB l i).drop 1 = entB (l.getD (2 * (i - 1)) E0) ++ (entB (l.getD (2 * (i - 1) + 1) E0) ++ zs) := by rw [hz]; exact drop_le _ _ _
  have d17 : (partB l i).drop 17 = entB (l.getD (2 * (i - 1) + 1) E0) ++ zs := by
    rw [show (17 : Nat) = 1 + 16 by rfl, ← List.drop_drop, d1]
    exact List.drop_left' (entB_length _)
  unfold unPart
  rw [d1, d17, unEnt_entB _ h0, unEnt_entB _ h1]
/-- The list behind k entries. -/
def pl (l : List E) (k : Nat) : List E := l.take k ++ List.replicate (l.length - k) E0
theorem pl_length (l : List E) (k : Nat) : (pl l k).length = l.length := by simp [pl]; omega
theorem pl_full (l : List E) (k : Nat) (h : l.length ≤ k) : pl l k = l := by
  unfold pl
  rw [List.take_of_length_le h, Nat.sub_eq_zero_of_le h]
  simp
theorem pl_set (l : List E) (k : Nat) (e : E) (h : l[k]? = some e) : (pl l k).set k e = pl l (k + 1) := by
  have hk := (List.getElem?_eq_some_iff.1 h).1
  unfold pl
  have e1 : l.length - k = (l.length - (k + 1)) + 1 := by omega
  rw [List.take_add_one, h, e1, List.replicate_succ, Option.toList_some, List.append_assoc, List.set_append]
  rw [if_neg (by simp; omega)]
  congr 1
  rw [show k - (l.take k).length = 0 by simp; omega]
  rfl
theorem pl_nones {g : G} {l : List E} {lv : List Int} (h : MapOk g l lv) : pl l 0 = nones g := by
  have := h.len
  unfold pl nones
  simp
  congr 1
  omega
theorem fill_play {g : G} {l : List E} {lv : List Int} (h : MapOk g l lv) (k : Nat) (hk : k < l.length) : fillGo g (k : Int) [l.getD k E0, l.getD (k + 1) E0] (pl l k) = (pl l (k + 2), 0) := by
  have hB := h.len
  have step : ∀ j, j < l.length → ∀ es, fillGo g (j : Int) (l.getD j E0 :: es) (pl l j) = fillGo g ((j : Int) + 1) es (pl l (j + 1)) := by
    intro j hj es
    obtain ⟨e, he⟩ : ∃ e, l[j]? = some e := ⟨_, List.getElem?_eq_getElem hj⟩
    have hd : l.getD j E0 = e := by rw [List.getD_eq_getElem?_getD, he]; rfl
    have hr := h.all e (List.mem_of_getElem? he)
    have hc : setCode g (pl l j) (j : Int) e = 0 := by
      unfold setCode
      rw [pl_length, if_neg (by omega), hr]
      rfl
    rw [fillGo, if_neg (by omega), hd, if_pos hc]
    congr 1
    unfold setL
    rw [if_pos hc, show ((j : Int)).toNat = j by omega]
    exact pl_set l j e he
  rw [step k hk]
  by_cases h1 : k + 1 < l.length
  · have := step (k + 1) h1 []
    simp only [Int.natCast_add, Int.natCast_one] at this
    rw [this, fillGo]
  · rw [fillGo, if_pos (by omega), pl_full l (k + 1) (by omega), pl_full l (k + 2) (by omega)]
theorem getD_fits {l : List E} (h : ∀ e ∈ l, e.Fits) (k : Nat) : (l.getD k E0).Fits := by
  rw [List.getD_eq_getElem?_getD]
  cases hj : l[k]? with
  | none => exact E0_fits
  | some e => exact h e (List.mem_of_getElem? hj)
theorem readGo_frames {s : Sn} {g : G} {l : List E} {lv : List Int} (h : MapOk g l lv) (hs : s.right l = true) (z : Int) (m : Nat) : ∀ i, 1 ≤ i → i + m = nparts l → readGo g i ((frames s g l z).drop i) (pl l (2 * (i - 1))) = some l := by
  induction m with
  | zero =>
    intro i h1 hi
    rw [List.drop_of_length_le (by rw [frames_length]; omega), pl_full l _ (by unfold nparts at hi; omega)]
    rfl
  | succ m ih =>
    intro i h1 hi
    have hg := frames_get s g l z i (by omega)
    obtain ⟨h2, h3⟩ := List.getElem?_eq_some_iff.1 hg
    rw [List.drop_eq_getElem_cons h2, h3]
    have hf : frameAt s g l z i = ⟨5, z, i, s.ep, s.gen, partB l i⟩ := by unfold frameAt; rw [if_neg (by omega)]
    have hfit := (h.sn hs).fits
    have hfill : fillGo g (fillB (frameAt s g l z i)) (unPart (frameAt s g l z i).bd) (pl l (2 * (i - 1))) = (pl l (2 * (i - 1) + 2), 0) := by
      rw [hf, unPart_partB l i (getD_fits hfit _) (getD_fits hfit _)]
      have := fill_play h (2 * (i - 1)) (by unfold nparts at hi; omega)
      rw [← this]
      congr 1
      unfold fillB
      simp
      omega
    rw [readGo_good _ _ _ _ _ ⟨by rw [hf], by rw [hfill]⟩, hfill]
    have := ih (i + 1) (by omega) (by omega)
    rw [show 2 * (i + 1 - 1) = 2 * (i - 1) + 2 by omega] at this
    exact this
/-- A snapshot is read from its frames, with anything behind them. -/
theorem readR_frames {s : Sn} {g : G} {l : List E} {lv : List Int} (h : MapOk g l lv) (hs : s.right l = true) (z : Int) (hz : g.holds z 0 = true) (rest : List Fr) : readR (frames s g l z ++ rest) = some (s, g, l) := by
  have hn := npG_len h
  have hl : (frames s g l z).length = npG g := by rw [frames_length, hn]
  have hp := (npG_parts h.right).2.1
  have h0 : (frames s g l z)[0]? = some ⟨4, z, 0, s.ep, s.gen, headB g s.nx⟩ := frames_head
  obtain ⟨f0, fs, hfs⟩ : ∃ f0 fs, frames s g l z = f0 :: fs := by
    cases hc : frames s g l z with
    | nil => rw [hc] at hl; simp at hl; omega
    | cons a b => exact ⟨a, b, rfl⟩
  have hf0 : f0 = ⟨4, z, 0, s.ep, s.gen, headB g s.nx⟩ := by rw [hfs] at h0; simpa using h0
  have hnx := right_nx hs
  have hug : unGeo f0.bd = g := by rw [hf0]; exact unGeo_headB g s.nx (G.small_of_right h.right)
  have hun : unNx f0.bd = s.nx := by rw [hf0]; exact unNx_headB g s.nx (by omega) (by omega)
  have hsn : sn1 f0 = s := by
    unfold sn1
    rw [hun, hf0]
  have htk : ((f0 :: fs) ++ rest).take (npG g) = frames s g l z := by rw [← hfs, ← hl]; exact List.take_left
  rw [hfs, List.cons_append]
  rw [List.cons_append] at htk
  have hL : readL f0 (f0 :: (fs ++ rest)) = some l := by
    unfold readL
    rw [if_pos ⟨by rw [hug]; exact h.right, by rw [hug]; have := congrArg List.length hfs; simp at this ⊢; omega⟩, hug, htk, ← pl_nones h]
    have := readGo_frames h hs z (nparts l - 1) 1 (Nat.le_refl 1) (by omega)
    simpa using this
  have hO : readOk f0 (f0 :: (fs ++ rest)) l = true := by
    unfold readOk
    rw [decide_eq_true_eq, hug, hsn, htk]
    rw [hf0]
    exact ⟨hs, hz, rfl⟩
  simp only [readR, hL, hO, if_true, hsn, hug]
end Go.Proofs.Ytcgafnmpfdkfoaa
