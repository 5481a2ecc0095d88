/- Law CkptUnlike: what the walk leans on. -/
import Derived.Test.YtcgafnmpfdkfoaaSecs
import Derived.Test.YtcgafnmpfdkfoaaMade13
import Derived.Test.YtcgafnmpfdkfoaaVote2
import Derived.Test.YtcgafnmpfdkfoaaSnSame
namespace Go.Proofs.Ytcgafnmpfdkfoaa
open Go.RowKit

theorem frB_inj {f h : Fr} (hf : f.right = true) (hh : h.right = true) (he : frB f = frB h) : f = h := by
  have rf : ∀ x : Fr, x.right = true → (((1 ≤ x.kd ∧ x.kd ≤ 5) ∧ (0 ≤ x.zn ∧ x.zn ≤ 65535)) ∧ (0 ≤ x.off ∧ x.off ≤ 65535)) ∧ (1 ≤ x.ep ∧ x.ep ≤ 4294967295) ∧ (0 ≤ x.sq ∧ x.sq ≤ 281474976710655) := by
    intro x hx
    unfold Fr.right at hx
    simp only [Bool.and_eq_true, wi_true] at hx
    omega
  have af := rf f hf
  have ah := rf h hh
  unfold frB at he
  obtain ⟨h1, e6⟩ := List.append_inj he (by simp [le_length])
  obtain ⟨h2, e5⟩ := List.append_inj h1 (by simp [le_length])
  obtain ⟨h3, e4⟩ := List.append_inj h2 (by simp [le_length])
  obtain ⟨h4, e3⟩ := List.append_inj h3 (by simp [le_length])
  obtain ⟨h5, e2⟩ := List.append_inj h4 (by simp [le_length])
  obtain ⟨e0, _⟩ := List.append_inj h5 (by simp [le_length])
  have a0 := le_inj 1 _ _ (by omega) (by omega) (by omega) (by omega) e0
  have a1 := le_inj 2 _ _ (by omega) (by omega) (by omega) (by omega) e2
  have a2 := le_inj 2 _ _ (by omega) (by omega) (by omega) (by omega) e3
  have a3 := le_inj 4 _ _ (by omega) (by omega) (by omega) (by omega) e4
  have a4 := le_inj 6 _ _ (by omega) (by omega) (by omega) (by omega) e5
  cases f; cases h
  simp_all
theorem sect_inj {f h : Fr} (hf : f.right = true) (hh : h.right = true) (kf : f.Ok) (kh : h.Ok) (he : sect f = sect h) : f = h := by
  unfold sect at he
  exact frB_inj hf hh (List.append_inj he (by rw [frB_length kf, frB_length kh])).1
theorem sector_eq (f h : Fr) (hf : f.Ok) (hh : h.Ok) (W : World) : (Op.equalIn 10000 89 (.agg (secV f)) (.agg (secV h))).run Try.prog W = .ok (decide (sect f = sect h)) W :=
  run_equalIn_bytes (P := Try.prog) W 9999 Try.underlying89 Try.underlying5 size_byte (fun a b w => run_equalIn_int w 9998 5 .u8 .u8 a b Try.underlying5) (sect f) (sect h) (sect_length hf) (sect_length hh)
theorem flatS_get {fs : List Fr} (hk : ∀ f ∈ fs, f.Ok) (k : Nat) (f : Fr) (h : fs[k]? = some f) (j : Nat) (hj : j < 64) : (flatS fs)[k * 64 + j]? = (bys (sect f))[j]? := by
  induction fs generalizing k with
  | nil => simp at h
  | cons y r ih =>
    have l64 : (bys (sect y)).length = 64 := by rw [bys_length, sect_length (hk y (by simp))]
    rw [show flatS (y :: r) = bys (sect y) ++ flatS r from rfl]
    cases k with
    | zero =>
      simp at h; subst h
      rw [List.getElem?_append_left (by omega)]
      congr 1; omega
    | succ k =>
      rw [List.getElem?_cons_succ] at h
      rw [List.getElem?_append_right (by omega), l64, show (k + 1) * 64 + j - 64 = k * 64 + j by omega]
      exact ih (fun f hf => hk f (List.mem_cons_of_mem _ hf)) k h
/-- Sectors, as they lie. -/
def SecsAt (w : World) (A : Option Addr) (n c : Nat) (fs : List Fr) : Prop :=
  fs.length = n ∧ n ≤ c ∧ c ≤ maxLen ∧ (0 < n → ∃ b, A = some ⟨b, 0, none⟩ ∧ b < w.heap.size ∧ ∀ k f, fs[k]? = some f → w.rangeAt b (k * 64) (secV f).toList)
theorem SecsAt.grow {w w1 : World} {A : Option Addr} {n c : Nat} {fs : List Fr} (h : SecsAt w A n c fs) (k : Below w.heap.size w w1) : SecsAt w1 A n c fs := by
  obtain ⟨h1, h2, h3, h4⟩ := h
  refine ⟨h1, h2, h3, fun hp => ?_⟩
  obtain ⟨b, e1, e2, e3⟩ := h4 hp
  exact ⟨b, e1, Nat.lt_of_lt_of_le e2 k.size, fun i f hf => rangeAt_below (e3 i f hf) e2 k⟩
theorem secs_of_own {W : World} {base n : Nat} {v : Value} {fs : List Fr} (h : W.ownsRow base 89 64 v n (flatS fs)) (hn : fs.length = n) (hk : ∀ f ∈ fs, f.Ok) : ∃ A c, v = .slice A n c ∧ SecsAt W A n c fs := by
  have hlen := flatS_length hk
  rcases h.2 with ⟨rfl, rfl⟩ | ⟨g, c, cs, rfl, _, hg, hnc, hcm, _, _⟩
  · exact ⟨none, 0, rfl, hn, Nat.le_refl _, Nat.zero_le _, fun h => absurd h (by omega)⟩
  · refine ⟨_, c, rfl, hn, hnc, hcm, fun _ => ⟨g, rfl, (h.lt _ rfl).2, fun k f hf j v hv => ?_⟩⟩
    have hkk := (List.getElem?_eq_some_iff.1 hf).1
    have hj := (List.getElem?_eq_some_iff.1 hv).1
    rw [Array.length_toList, secV_size (hk f (List.mem_of_getElem? hf))] at hj
    rw [h.cellAt (k * 64 + j) (by omega), flatS_get hk k f hf j hj]
    simpa [secV] using hv
theorem store_table : ∀ W : World, (storeCells ⟨W.heap.size, 0, none⟩ tabV.toList 0).run Try.prog (W.alloc (.cells Try.zeroCells83 83)) = .ok () (W.alloc (.cells tabV 83)) := fun W =>
  run_storeCells_new W 83 _ tabV (by rw [tabV_size]; exact size_table) (by rw [ptab_zero, ptab_size, tabV_size]) (by
    rw [Array.all_eq_true_iff_forall_mem]
    intro v hv
    simp only [tabV, List.mem_toArray, List.mem_map] at hv
    obtain ⟨i, _, rfl⟩ := hv
    rfl)
theorem made13_bad (w : World) (g : G) (A : Option Addr) (n c : Nat) (gen ep nx : Int) (h : g.right = false ∨ 60 < n) :
    Calls Try.prog 50 #[g.v, .slice A n c, .int .i64 gen, .int .i64 ep, .int .i64 nx] w fun r w' => r = .returned (.tuple #[sn0, ref0, .bool false]) ∧ Below w.heap.size w w' := by
  cases hr : g.right with
  | false => exact made13_no w g A n c _ _ _ hr
  | true => exact made13_long w g A n c _ _ _ hr (h.resolve_left (by rw [hr]; simp))
/-- What stands of one of the two. -/
structure UnAt (w : World) (g : G) (l : List E) (lv : List Int) (s : Sn) (p bl bv st : Nat) (W : World) : Prop where
  m : MapAt W p bl bv g l lv
  y : Blk W st 53 (s.arr p)
  x : Blk W w.heap.size 23 g.arr
  u : Below w.heap.size w W
theorem UnAt.grow {w : World} {g : G} {l : List E} {lv : List Int} {s : Sn} {p bl bv st : Nat} {W W' : World} (h : UnAt w g l lv s p bl bv st W) (k : Below W.heap.size W W') : UnAt w g l lv s p bl bv st W' :=
  ⟨h.m.grow k, (Keeps.of_below (S := []) k).blk h.y.lt (by simp) h.y, (Keeps.of_below (S := []) k).blk h.x.lt (by simp) h.x, h.u.trans (k.mono h.u.size)⟩
theorem OpsAt.up {w w1 : World} {A : Option Addr} {n c : Nat} {ops : List Op11} (h : OpsAt w A n c ops) (k : Below w.heap.size w w1) : OpsAt w1 A n c ops := by
  obtain ⟨h1, h2, h3, h4⟩ := h
  refine ⟨h1, h2, h3, fun hp => ?_⟩
  obtain ⟨b', off, e1, e2, e3⟩ := h4 hp
  have hk : ∀ o, w1.cell? ⟨b', o, none⟩ = w.cell? ⟨b', o, none⟩ := fun o => k.cell (p := ⟨b', o, none⟩) e2
  exact ⟨b', off, e1, Nat.lt_of_lt_of_le e2 k.size, fun i o ho => by simpa only [hk] using e3 i o ho⟩
def Alike (fx fy : List Fr) (k : Nat) : Prop := ∀ (i : Nat) (f h : Fr), i < k → fx[i]? = some f → fy[i]? = some h → sect f = sect h
theorem Alike.step {fx fy : List Fr} {k : Nat} {f h : Fr} (hf : fx[k]? = some f) (hh : fy[k]? = some h) : Alike fx fy (k + 1) ↔ Alike fx fy k ∧ sect f = sect h := by
  constructor
  · intro H
    exact ⟨fun i a b hi ha hb => H i a b (by omega) ha hb, H k f h (by omega) hf hh⟩
  · rintro ⟨H, e⟩ i a b hi ha hb
    by_cases hik : i = k
    · subst hik; rw [hf] at ha; rw [hh] at hb; cases ha; cases hb; exact e
    · exact H i a b (by omega) ha hb
theorem Alike.all {fx fy : List Fr} (hx : FsOk fx) (hy : FsOk fy) (hl : fx.length = fy.length) : Alike fx fy fx.length ↔ fx = fy := by
  constructor
  · intro H
    apply List.ext_getElem? 
    intro i
    by_cases hi : i < fx.length
    · obtain ⟨f, hf⟩ : ∃ f, fx[i]? = some f := ⟨_, List.getElem?_eq_getElem hi⟩
      obtain ⟨h, hh⟩ : ∃ h, fy[i]? = some h := ⟨_, List.getElem?_eq_getElem (by omega)⟩
      rw [hf, hh]
      obtain ⟨a1, a2, _⟩ := hx f (List.mem_of_getElem? hf)
      obtain ⟨b1, b2, _⟩ := hy h (List.mem_of_getElem? hh)
      rw [sect_inj a1 b1 a2 b2 (H i f h hi hf hh)]
    · rw [List.getElem?_eq_none (by omega), List.getElem?_eq_none (by omega)]
  · rintro rfl i f h _ hf hh
    rw [hf] at hh; cases hh; rfl
end Go.Proofs.Ytcgafnmpfdkfoaa
