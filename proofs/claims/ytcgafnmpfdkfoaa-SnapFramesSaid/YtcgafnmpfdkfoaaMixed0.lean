/- Frames of two snapshots, mixed: the plain law. -/
import Derived.Test.YtcgafnmpfdkfoaaSnReads
namespace Go.Proofs.Ytcgafnmpfdkfoaa
open Go.RowKit

theorem holds_right {g : G} {z o : Int} (h : g.holds z o = true) : g.right = true := by
  unfold G.holds at h
  simp only [Bool.and_eq_true] at h
  exact h.1.1
theorem frameAt_sq (s : Sn) (g : G) (l : List E) (z : Int) (i : Nat) : (frameAt s g l z i).sq = s.gen := by
  unfold frameAt
  split <;> rfl
theorem right_nx {s : Sn} {l : List E} (h : s.right l = true) : 1 ≤ s.nx ∧ s.nx ≤ 281474976710655 := by
  simp only [Sn.right, Bool.and_eq_true, wi_true] at h
  exact h.1.2
theorem mixed_none {sa sb : Sn} {g : G} {la lb : List E} {lva lvb : List Int} (ha : MapOk g la lva) (hb : MapOk g lb lvb) (hra : sa.right la = true) (hne : sa.gen ≠ sb.gen) (m : Nat) (hm : m < nparts la) :
    readR ((frames sa g la 0).set m (frameAt sb g lb 0 m)) = none := by
  cases hR : readR ((frames sa g la 0).set m (frameAt sb g lb 0 m)) with
  | none => rfl
  | some x =>
    exfalso
    obtain ⟨s, g', l'⟩ := x
    obtain ⟨f0, rest, hz, hsr, hho, hfr, hnp⟩ := readR_some hR
    have hg' := holds_right hho
    have hq := (npG_parts hg').2.1
    have hlen : (frames sa g la 0).length = nparts la := frames_length _ _ _ _
    have hl' : nparts l' = npG g' := by
      have := congrArg List.length hfr
      rw [frames_length, List.length_take] at this
      omega
    have hget : ∀ i, i < npG g' → ((frames sa g la 0).set m (frameAt sb g lb 0 m))[i]? = some (frameAt s g' l' f0.zn i) := by
      intro i hi
      have : (frames s g' l' f0.zn)[i]? = (((frames sa g la 0).set m (frameAt sb g lb 0 m)).take (npG g'))[i]? := by rw [hfr]
      rw [frames_get _ _ _ _ _ (by omega), List.getElem?_take, if_pos hi] at this
      exact this.symm
    have hset : ∀ i, i ≠ m → i < nparts la → ((frames sa g la 0).set m (frameAt sb g lb 0 m))[i]? = some (frameAt sa g la 0 i) := by
      intro i hi hl
      rw [List.getElem?_set_ne (fun h => hi h.symm)]
      exact frames_get _ _ _ _ _ hl
    have hself : ((frames sa g la 0).set m (frameAt sb g lb 0 m))[m]? = some (frameAt sb g lb 0 m) := List.getElem?_set_self (by omega)
    have hnl : npG g' ≤ nparts la := by rw [List.length_set, hlen] at hnp; exact hnp
    by_cases h0 : m = 0
    · subst h0
      have e0 := (hget 0 (by omega)).symm.trans hself
      have e1 := (hget 1 (by omega)).symm.trans (hset 1 (by omega) (by omega))
      injection e0 with e0
      injection e1 with e1
      have x0 := congrArg Fr.sq e0
      have x1 := congrArg Fr.sq e1
      rw [frameAt_sq, frameAt_sq] at x0 x1
      exact hne (x1.symm.trans x0)
    · have e0 := (hget 0 (by omega)).symm.trans (hset 0 (fun h => h0 h.symm) (by omega))
      injection e0 with e0
      have x0 := congrArg Fr.sq e0
      rw [frameAt_sq, frameAt_sq] at x0
      have hbd := congrArg Fr.bd e0
      simp only [frameAt, if_true] at hbd
      have n1 := right_nx hsr
      have n2 := right_nx hra
      have hgg := (headB_inj (G.small_of_right hg') (G.small_of_right ha.right) (by omega) (by omega) (by omega) (by omega) hbd).1
      subst hgg
      have hq2 := npG_len ha
      have e1 := (hget m (by omega)).symm.trans hself
      injection e1 with e1
      have x1 := congrArg Fr.sq e1
      rw [frameAt_sq, frameAt_sq] at x1
      exact hne (x0.symm.trans x1)
/-- A row of frames, as frames that lie. -/
theorem FrL.frs {w : World} {base b c : Nat} {fs : List Fr} (h : FrL base w (.slice (some ⟨b, 0, none⟩) fs.length c) fs) (hk : ∀ f ∈ fs, f.Ok ∧ Byt f.bd) : FrsAt w (some ⟨b, 0, none⟩) fs.length c fs := by
  obtain ⟨h1, h2⟩ := own_is' h
  refine ⟨rfl, h1, h2, hk, fun _ => ⟨b, 0, rfl, FrL.lt h, fun k f hf => ?_⟩⟩
  rw [Nat.zero_add]
  exact rangeAt_row h (fun f hf => (hk f hf).1) hf
theorem frames_byt (s : Sn) (g : G) (l : List E) (z : Int) : ∀ f ∈ frames s g l z, f.Ok ∧ Byt f.bd := by
  intro f hf
  refine ⟨frames_ok s g l z f hf, ?_⟩
  obtain ⟨i, _, rfl⟩ := List.mem_map.1 hf
  unfold frameAt
  split
  · exact headB_byt _ _
  · exact partB_byt _ _
theorem over_get (cs : Array Value) (o : Nat) (D : Array Value) (hfit : o + D.size ≤ cs.size) (m : Nat) : (over cs o D)[m]? = if o ≤ m ∧ m < o + D.size then D[m - o]? else cs[m]? := by
  unfold over
  simp only [List.getElem?_toArray, List.getElem?_append, List.length_take, Array.length_toList, Nat.min_eq_left (show o ≤ cs.size by omega), List.getElem?_take, List.getElem?_drop]
  by_cases h1 : m < o
  · rw [if_pos h1, if_pos h1, if_neg (by omega)]
    simp
  · rw [if_neg h1]
    by_cases h2 : m - o < D.size
    · rw [if_pos h2, if_pos (by omega)]
      simp
    · rw [if_neg h2, if_neg (by omega), show o + D.size + (m - o - D.size) = m by omega]
      simp
/-- A row of frames, one of which another frame has been laid over. -/
theorem FrsAt.over {w : World} {b : Nat} {cs : Array Value} {c : Nat} {fs : List Fr} {m : Nat} {h : Fr} {t : TypeId} (hB : Blk w b t (over cs (m * 49) h.arr)) (hk : ∀ f ∈ fs, f.Ok ∧ Byt f.bd) (hh : h.Ok ∧ Byt h.bd) (hm : m < fs.length) (hnc : fs.length ≤ c) (hc : c ≤ maxLen) (hs : cs.size = c * 49) (ht : cs.toList.take (fs.length * 49) = flatF fs) :
    FrsAt w (some ⟨b, 0, none⟩) fs.length c (fs.set m h) := by
  have hsz := Fr.size hh.1
  have hfit : m * 49 + h.arr.size ≤ cs.size := by
    rw [hsz, hs]
    have : (m + 1) * 49 ≤ c * 49 := Nat.mul_le_mul_right 49 (by omega)
    omega
  refine ⟨by simp, hnc, hc, fun f hf => ?_, fun _ => ⟨b, 0, rfl, hB.lt, fun k f hf => ?_⟩⟩
  · rcases List.mem_or_eq_of_mem_set hf with h' | rfl
    · exact hk f h'
    · exact hh
  · rw [Nat.zero_add]
    intro j v hv
    rw [hB.cell, over_get cs _ _ hfit]
    by_cases hkm : k = m
    · subst hkm
      rw [List.getElem?_set_self hm] at hf
      injection hf with hf
      subst hf
      have hj := (List.getElem?_eq_some_iff.1 hv).1
      rw [if_pos ⟨by omega, by simpa using hj⟩, show k * 49 + j - k * 49 = j by omega]
      simpa using hv
    · rw [List.getElem?_set_ne (fun h => hkm h.symm)] at hf
      have hfk := hk f (List.mem_of_getElem? hf)
      have hj := (List.getElem?_eq_some_iff.1 hv).1
      rw [Array.length_toList, Fr.size hfk.1] at hj
      have hkl := (List.getElem?_eq_some_iff.1 hf).1
      rw [hsz, if_neg (by
        rintro ⟨h1, h2⟩
        rcases Nat.lt_or_gt_of_ne hkm with h3 | h3
        · have : (k + 1) * 49 ≤ m * 49 := Nat.mul_le_mul_right 49 (by omega)
          omega
        · have : (m + 1) * 49 ≤ k * 49 := Nat.mul_le_mul_right 49 (by omega)
          omega)]
      have hg := flatF_get (fun f hf => (hk f hf).1) k f hf
      have h4 : ((flatF fs).drop (k * 49)).take 49 = f.arr.toList := hg
      have h5 : (flatF fs)[k * 49 + j]? = some v := by
        rw [← h4, List.getElem?_take, if_pos hj, List.getElem?_drop] at hv
        exact hv
      rw [← ht, List.getElem?_take] at h5
      split at h5
      · simpa using h5
      · cases h5
theorem OpsAt.grow {w w1 : World} {A : Option Addr} {n c : Nat} {ops : List Op11} (h : OpsAt w A n c ops) (k : Below w.heap.size w w1) : OpsAt w1 A n c ops := by
  obtain ⟨h1, h2, h3, h4⟩ := h
  refine ⟨h1, h2, h3, fun hp => ?_⟩
  obtain ⟨b', off, e1, e2, e3⟩ := h4 hp
  have hk : ∀ o, w1.cell? ⟨b', o, none⟩ = w.cell? ⟨b', o, none⟩ := fun o => k.cell (p := ⟨b', o, none⟩) e2
  exact ⟨b', off, e1, Nat.lt_of_lt_of_le e2 k.size, fun i o ho => by simpa only [hk] using e3 i o ho⟩
end Go.Proofs.Ytcgafnmpfdkfoaa
