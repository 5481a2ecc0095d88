/- Layer 12, plain: frames tell what they were made of. -/
import Derived.Test.YtcgafnmpfdkfoaaPure12
namespace Go.Proofs.Ytcgafnmpfdkfoaa

theorem app_inj {xs ys us vs : List Int} (h : xs ++ us = ys ++ vs) (hl : xs.length = ys.length) : xs = ys ∧ us = vs := List.append_inj h hl
theorem pad44_inj {xs ys : List Int} (h : pad44 xs = pad44 ys) (hl : xs.length = ys.length) : xs = ys := (app_inj h hl).1

/-- Numbers that fit their bytes. -/
structure E.Fits (e : E) : Prop where
  st : 0 ≤ e.st ∧ e.st < 256
  zn : 0 ≤ e.zn ∧ e.zn < 65536
  mt : 0 ≤ e.mt ∧ e.mt < 65536
  off : 0 ≤ e.off ∧ e.off < 256
  sq : 0 ≤ e.sq ∧ e.sq < 281474976710656
  sm : 0 ≤ e.sm ∧ e.sm < 4294967296
theorem E.fits_of_right {e : E} {g : G} (hs : g.Small) (h : e.right g = true) : e.Fits := by
  have ha := hs.all_le
  by_cases h1 : e.st = 1
  · obtain ⟨a, b, c, d, f, i, _⟩ := E.right_lives h h1
    have := hs.S1
    exact ⟨by omega, by omega, by omega, by omega, by omega, by omega⟩
  · obtain ⟨a, b, c, d, f, i⟩ := E.right_zero h h1
    exact ⟨by omega, by omega, by omega, by omega, by omega, by omega⟩
theorem E0_fits : E0.Fits := ⟨by decide, by decide, by decide, by decide, by decide, by decide⟩
theorem entB_inj {e f : E} (he : e.Fits) (hf : f.Fits) (h : entB e = entB f) : e = f := by
  unfold entB at h
  obtain ⟨h, h5⟩ := app_inj h (by simp [le_length])
  obtain ⟨h, h4⟩ := app_inj h (by simp [le_length])
  obtain ⟨h, h3⟩ := app_inj h (by simp [le_length])
  obtain ⟨h, h2⟩ := app_inj h (by simp [le_length])
  obtain ⟨h0, h1⟩ := app_inj h (by simp [le_length])
  have k0 := le_inj 1 _ _ he.st.1 he.st.2 hf.st.1 hf.st.2 h0
  have k1 := le_inj 2 _ _ he.zn.1 he.zn.2 hf.zn.1 hf.zn.2 h1
  have k2 := le_inj 2 _ _ he.mt.1 he.mt.2 hf.mt.1 hf.mt.2 h2
  have k3 := le_inj 1 _ _ he.off.1 he.off.2 hf.off.1 hf.off.2 h3
  have k4 := le_inj 6 _ _ he.sq.1 he.sq.2 hf.sq.1 hf.sq.2 h4
  have k5 := le_inj 4 _ _ he.sm.1 he.sm.2 hf.sm.1 hf.sm.2 h5
  cases e; cases f
  simp_all
theorem headB_inj {g f : G} {a b : Int} (hg : g.Small) (hf : f.Small) (a0 : 0 ≤ a) (a1 : a < 281474976710656) (b0 : 0 ≤ b) (b1 : b < 281474976710656) (h : headB g a = headB f b) : g = f ∧ a = b := by
  unfold headB at h
  have h := pad44_inj h (by simp [le_length])
  obtain ⟨h, h6⟩ := app_inj h (by simp [le_length])
  obtain ⟨h, h5⟩ := app_inj h (by simp [le_length])
  obtain ⟨h, h4⟩ := app_inj h (by simp [le_length])
  obtain ⟨h, h3⟩ := app_inj h (by simp [le_length])
  obtain ⟨h, h2⟩ := app_inj h (by simp [le_length])
  obtain ⟨h0, h1⟩ := app_inj h (by simp [le_length])
  obtain ⟨p0, p1, p2, p3, p4, p5, p6, p7, p8, p9, p10, p11⟩ := hg
  obtain ⟨q0, q1, q2, q3, q4, q5, q6, q7, q8, q9, q10, q11⟩ := hf
  have k0 := le_inj 6 _ _ a0 a1 b0 b1 h0
  have k1 := le_inj 1 _ _ (by omega) (by omega) (by omega) (by omega) h1
  have k2 := le_inj 1 _ _ (by omega) (by omega) (by omega) (by omega) h2
  have k3 := le_inj 1 _ _ (by omega) (by omega) (by omega) (by omega) h3
  have k4 := le_inj 2 _ _ (by omega) (by omega) (by omega) (by omega) h4
  have k5 := le_inj 1 _ _ (by omega) (by omega) (by omega) (by omega) h5
  have k6 := le_inj 1 _ _ (by omega) (by omega) (by omega) (by omega) h6
  refine ⟨?_, k0⟩
  cases g; cases f
  simp_all
theorem partB_inj {l r : List E} {i : Nat} (hl : ∀ e ∈ l, e.Fits) (hr : ∀ e ∈ r, e.Fits) (h : partB l i = partB r i) : l.getD (2 * (i - 1)) E0 = r.getD (2 * (i - 1)) E0 ∧ l.getD (2 * (i - 1) + 1) E0 = r.getD (2 * (i - 1) + 1) E0 := by
  have key : ∀ (l : List E), (∀ e ∈ l, e.Fits) → ∀ j, (l.getD j E0).Fits := by
    intro l hl j
    rw [List.getD_eq_getElem?_getD]
    cases hj : l[j]? with
    | none => exact E0_fits
    | some e => exact hl e (List.mem_of_getElem? hj)
  unfold partB at h
  have h := pad44_inj h (by simp [le_length, entB_length])
  obtain ⟨h, h2⟩ := app_inj h (by simp [le_length, entB_length])
  obtain ⟨_, h1⟩ := app_inj h (by simp [le_length])
  exact ⟨entB_inj (key l hl _) (key r hr _) h1, entB_inj (key l hl _) (key r hr _) h2⟩
/-- What holds of every snapshot that may be. -/
structure SnOk (s : Sn) (g : G) (l : List E) : Prop where
  right : g.right = true
  len : (l.length : Int) = g.B
  all : ∀ e ∈ l, e.right g = true
  sn : s.right l = true
theorem SnOk.nums {s : Sn} {g : G} {l : List E} (h : SnOk s g l) : (1 ≤ s.gen ∧ s.gen ≤ 281474976710655) ∧ (1 ≤ s.ep ∧ s.ep ≤ 4294967295) ∧ (1 ≤ s.nx ∧ s.nx ≤ 281474976710655) ∧ ∀ e ∈ l, e.sq < s.nx := by
  have := h.sn
  simp only [Sn.right, Bool.and_eq_true, wi_true, List.all_eq_true, decide_eq_true_eq] at this
  exact ⟨this.1.1.1, this.1.1.2, this.1.2, this.2⟩
theorem SnOk.fits {s : Sn} {g : G} {l : List E} (h : SnOk s g l) : ∀ e ∈ l, e.Fits := fun e he => E.fits_of_right (G.small_of_right h.right) (h.all e he)
theorem frames_head {s : Sn} {g : G} {l : List E} {z : Int} : (frames s g l z)[0]? = some ⟨4, z, 0, s.ep, s.gen, headB g s.nx⟩ := by
  rw [frames_get _ _ _ _ _ (by unfold nparts; omega)]
  rfl
/-- Two snapshots of which the frames are the same are the same; even where the one's frames only begin with the other one's. -/
theorem frames_inj {s t : Sn} {g f : G} {l r : List E} {z y : Int} (hs : SnOk s g l) (ht : SnOk t f r) (rest : List Fr) (h : frames s g l z ++ rest = frames t f r y) : s = t ∧ g = f ∧ l = r ∧ z = y := by
  have h0 : (frames s g l z ++ rest)[0]? = (frames t f r y)[0]? := by rw [h]
  rw [List.getElem?_append_left (by rw [frames_length]; unfold nparts; omega), frames_head, frames_head] at h0
  injection h0 with h0
  injection h0 with _ hz _ hep hgen hbd
  have n1 := hs.nums
  have n2 := ht.nums
  obtain ⟨hg, hn⟩ := headB_inj (G.small_of_right hs.right) (G.small_of_right ht.right) (by omega) (by omega) (by omega) (by omega) hbd
  have hst : s = t := by cases s; cases t; simp_all
  subst hg
  have hl : l.length = r.length := by have := hs.len; have := ht.len; omega
  refine ⟨hst, rfl, ?_, hz⟩
  apply List.ext_getElem hl
  intro j h1 h2
  have hi : j / 2 + 1 < nparts l := by unfold nparts; omega
  have hi' : j / 2 + 1 < nparts r := by unfold nparts; omega
  have hp : (frames s g l z ++ rest)[j / 2 + 1]? = (frames t g r y)[j / 2 + 1]? := by rw [h]
  rw [List.getElem?_append_left (by rw [frames_length]; omega), frames_get _ _ _ _ _ hi, frames_get _ _ _ _ _ hi'] at hp
  simp only [frameAt, if_neg (show ¬ j / 2 + 1 = 0 by omega)] at hp
  injection hp with hp
  injection hp with _ _ _ _ _ hp
  obtain ⟨k0, k1⟩ := partB_inj hs.fits ht.fits hp
  have hj : j = 2 * (j / 2 + 1 - 1) ∨ j = 2 * (j / 2 + 1 - 1) + 1 := by omega
  have e1 : l[j] = l.getD j E0 := by rw [List.getD_eq_getElem?_getD, List.getElem?_eq_getElem h1]; rfl
  have e2 : r[j] = r.getD j E0 := by rw [List.getD_eq_getElem?_getD, List.getElem?_eq_getElem h2]; rfl
  rw [e1, e2]
  rcases hj with hj | hj
  · rw [hj]; exact k0
  · rw [hj]; exact k1
end Go.Proofs.Ytcgafnmpfdkfoaa
