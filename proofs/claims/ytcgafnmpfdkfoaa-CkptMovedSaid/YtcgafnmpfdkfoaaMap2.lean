/- Maps that are made, counted in, set. -/
import Derived.Test.YtcgafnmpfdkfoaaEnt2
import Derived.Laws.MakeOwn
import Derived.RegionTactic
import Derived.BigRegion
namespace Go.Proofs.Ytcgafnmpfdkfoaa
open Go.RowKit

theorem info_entry : (Try.prog.info? 31).map (fun i => (i.zero, i.size, i.bytes)) = some (some E0.v, 6, 48) := by kernel_rfl
theorem info_int : (Try.prog.info? 3).map (fun i => (i.zero, i.size, i.bytes)) = some (some (.int .i64 0), 1, 8) := by kernel_rfl

theorem run_make_rowN {P : Program} (t e : TypeId) (i : TypeInfo) (z : Value) (ht : P.underlying t = some (.slice e)) (hi : P.info? e = some i) (hz : i.zero = some z)
    (kl kc : IntKind) (n c : Nat) (hnc : n ≤ c) (hbytes : i.bytes * c ≤ 281474976710656) (h63 : c ≤ 9223372036854775807) (w : World) :
    (Instr.makeSlice t (.int kl (n : Int)) (.int kc (c : Int))).run P w = .ok (.slice (some ⟨w.heap.size, 0, none⟩) n c) (w.alloc (.cells (madeCells z.cells (c * i.size)) e)) := by
  have hb : (i.bytes : Int) * (c : Int) ≤ 281474976710656 := by
    have h : ((i.bytes * c : Nat) : Int) ≤ 281474976710656 := by omega
    rwa [Int.natCast_mul] at h
  have hr := run_make (P := P) w t e i z ht hi hz kl kc n c (by omega) (by omega) hb (by omega)
  simp only [Int.toNat_natCast] at hr
  exact hr
def made6 (n : Nat) : Array Value := madeCells E0.v.cells (n * 6)
def made1 (n : Nat) : Array Value := madeCells #[.int .i64 0] (n * 1)
theorem make_entries (n : Int) (h0 : 0 ≤ n) (h1 : n ≤ 100000) : ∀ W : World, (Instr.makeSlice 38 (.int .i64 n) (.int .i64 n)).run Try.prog W = .ok (.slice (some ⟨W.heap.size, 0, none⟩) n.toNat n.toNat) (W.alloc (.cells (made6 n.toNat) 31)) := by
  intro W
  obtain ⟨i0, hi, hz0, hz1, hz2⟩ := info_parts info_entry
  have := run_make_rowN (P := Try.prog) 38 31 i0 E0.v Try.underlying38 hi hz0 .i64 .i64 n.toNat n.toNat (Nat.le_refl _) (by rw [hz2]; omega) (by omega) W
  rw [hz1, Int.toNat_of_nonneg h0] at this
  exact this
theorem make_ints (n : Int) (h0 : 0 ≤ n) (h1 : n ≤ 100000) : ∀ W : World, (Instr.makeSlice 73 (.int .i64 n) (.int .i64 n)).run Try.prog W = .ok (.slice (some ⟨W.heap.size, 0, none⟩) n.toNat n.toNat) (W.alloc (.cells (made1 n.toNat) 3)) := by
  intro W
  obtain ⟨i0, hi, hz0, hz1, hz2⟩ := info_parts info_int
  have := run_make_rowN (P := Try.prog) 73 3 i0 (.int .i64 0) Try.underlying73 hi hz0 .i64 .i64 n.toNat n.toNat (Nat.le_refl _) (by rw [hz2]; omega) (by omega) W
  rw [hz1, Int.toNat_of_nonneg h0] at this
  exact this

theorem Blk.newAt {w : World} {t : TypeId} {cs : Array Value} {n : Nat} (h : n = w.heap.size) : Blk (w.alloc (.cells cs t)) n t cs := h ▸ heap_alloc_new w _
theorem Blk.alloc {w : World} {g : Nat} {t : TypeId} {cs : Array Value} (h : Blk w g t cs) (o : Obj) : Blk (w.alloc o) g t cs := (Below.heap_alloc w o g h.lt).trans h
theorem Blk.drew {w : World} {g : Nat} {t : TypeId} {cs : Array Value} (h : Blk w g t cs) : Blk w.drew g t cs := h
theorem flat_append (l r : List E) : flat (l ++ r) = flat l ++ flat r := by simp [flat]
theorem own_blk {w : World} {base g n c : Nat} {e : TypeId} {size : Nat} {cs : Array Value} {xs : List Value} (h : Blk w g e cs) (hb : base ≤ g) (hn : n ≤ c) (hc : c ≤ maxLen) (hz : cs.size = c * size) (hl : xs.length = n * size) (ht : cs.toList.take (n * size) = xs) :
    w.ownsRow base e size (.slice (some ⟨g, 0, none⟩) n c) n xs := ⟨hl, .inr ⟨g, c, cs, rfl, hb, h, hn, hc, hz, ht⟩⟩
theorem made6_list (n : Nat) : (made6 n).toList = flat (List.replicate n E0) := by
  apply List.ext_getElem
  · rw [flat_length]; simp [made6, madeCells]
  · intro i h1 h2
    have hi : i < n * 6 := by simpa [made6, madeCells] using h1
    have hq := flat_get (List.replicate n E0) (i / 6) (by simp; omega) (i % 6) (by omega)
    have e1 : i / 6 * 6 + i % 6 = i := by omega
    rw [e1] at hq
    have h3 := List.getElem?_eq_getElem h2
    rw [h3] at hq
    have h6 : i / 6 < (List.replicate n E0).length := by simp; omega
    have key : some ((made6 n).toList[i]) = ((List.replicate n E0)[i / 6]'h6).cells[i % 6]? := by
      have : i % 6 = 0 ∨ i % 6 = 1 ∨ i % 6 = 2 ∨ i % 6 = 3 ∨ i % 6 = 4 ∨ i % 6 = 5 := by omega
      rcases this with h | h | h | h | h | h <;> simp [made6, madeCells, E0, h, Value.cells]
    rw [← key] at hq
    injection hq with hq
    exact hq.symm
theorem made1_list (n : Nat) : (made1 n).toList = nums (List.replicate n 0) := by
  apply List.ext_getElem
  · simp [made1, madeCells, nums]
  · intro i h1 h2
    simp [made1, madeCells, nums, Nat.mod_one]
theorem map_made {W : World} {p bl bv : Nat} {g : G} (hs : g.Small) (hp : Blk W p 148 #[.int .i64 g.D, .int .i64 g.Z, .int .i64 g.S, .int .i64 g.B, .int .i64 g.P, .int .i64 g.O, .slice (some ⟨bl, 0, none⟩) g.B.toNat g.B.toNat, .slice (some ⟨bv, 0, none⟩) g.all.toNat g.all.toNat])
    (hl : Blk W bl 31 (made6 g.B.toNat)) (hv : Blk W bv 3 (made1 g.all.toNat)) : MapAt W p bl bv g (nones g) (noLive g) := by
  have h1 := hs.B1
  have h2 := hs.all_le
  have e1 : (nones g).length = g.B.toNat := by simp [nones]
  have e2 : (noLive g).length = g.all.toNat := by simp [noLive]
  refine ⟨g.B.toNat, g.all.toNat, by rw [e1, e2]; exact hp, ?_, ?_⟩
  · rw [e1]
    refine own_blk hl (Nat.zero_le _) (Nat.le_refl _) (by unfold maxLen; omega) (by simp [made6, madeCells]) (by rw [flat_length, e1]) ?_
    rw [made6_list, List.take_of_length_le (by rw [flat_length]; simp)]
    rfl
  · rw [e2]
    refine own_blk hv (Nat.zero_le _) (Nat.le_refl _) (by unfold maxLen; omega) (by simp [made1, madeCells]) (by simp [nums, e2]) ?_
    rw [made1_list, List.take_of_length_le (by simp [nums])]
    rfl

def MadeBlk (n : Nat) (W : World) (p : Nat) (g : G) : Prop := ∃ bl bv, (n ≤ bl ∧ n ≤ bv) ∧ Blk W p 148 #[.int .i64 g.D, .int .i64 g.Z, .int .i64 g.S, .int .i64 g.B, .int .i64 g.P, .int .i64 g.O, .slice (some ⟨bl, 0, none⟩) g.B.toNat g.B.toNat, .slice (some ⟨bv, 0, none⟩) g.all.toNat g.all.toNat] ∧
    Blk W bl 31 (made6 g.B.toNat) ∧ Blk W bv 3 (made1 g.all.toNat)
theorem made_blk {n : Nat} {W : World} {p bl bv : Nat} {g : G} (hp : Blk W p 148 #[.int .i64 g.D, .int .i64 g.Z, .int .i64 g.S, .int .i64 g.B, .int .i64 g.P, .int .i64 g.O, .slice (some ⟨bl, 0, none⟩) g.B.toNat g.B.toNat, .slice (some ⟨bv, 0, none⟩) g.all.toNat g.all.toNat])
    (hl : Blk W bl 31 (made6 g.B.toNat)) (hv : Blk W bv 3 (made1 g.all.toNat)) (n1 : n ≤ bl) (n2 : n ≤ bv) : MadeBlk n W p g := ⟨bl, bv, ⟨n1, n2⟩, hp, hl, hv⟩
/-- New hands back a new map of nothing. -/
def NewPost (w : World) (g : G) (r : Ending) (W : World) : Prop := ∃ p bl bv, r = .returned (.tuple #[.pointer (some ⟨p, 0, none⟩), .int .i64 0]) ∧ (w.heap.size ≤ p ∧ w.heap.size ≤ bl ∧ w.heap.size ≤ bv) ∧ MapAt W p bl bv g (nones g) (noLive g) ∧ Below w.heap.size w W
theorem made_fin {w W : World} {p : Nat} {g : G} {r : Ending} (hs : g.Small) (hr : r = .returned (.tuple #[.pointer (some ⟨p, 0, none⟩), .int .i64 0])) (h0 : w.heap.size ≤ p) (hb : Below w.heap.size w W) (h : MadeBlk w.heap.size W p g) :
    NewPost w g r W := by
  obtain ⟨bl, bv, ⟨n1, n2⟩, h1, h2, h3⟩ := h
  exact ⟨p, bl, bv, hr, ⟨h0, n1, n2⟩, map_made hs h1 h2 h3, hb⟩

/-- Block b holds a geometry. -/
def BoxIs (b : Nat) (g : G) (w' : World) : Prop := b < w'.heap.size ∧ w'.cell? ⟨b, 0, none⟩ = some (.int .i64 g.D) ∧ w'.cell? ⟨b, 1, none⟩ = some (.int .i64 g.Z) ∧ w'.cell? ⟨b, 2, none⟩ = some (.int .i64 g.S) ∧ w'.cell? ⟨b, 3, none⟩ = some (.int .i64 g.B) ∧ w'.cell? ⟨b, 4, none⟩ = some (.int .i64 g.P) ∧ w'.cell? ⟨b, 5, none⟩ = some (.int .i64 g.O)
theorem BoxIs.alloc {b : Nat} {g : G} {W : World} (h : BoxIs b g W.drew) (o : Obj) : BoxIs b g (W.alloc o).drew := by
  obtain ⟨h, h0, h1, h2, h3, h4, h5⟩ := h
  have hh : b < W.heap.size := h
  exact ⟨by simp; omega, (World.cell?_alloc_lt W o _ hh).trans h0, (World.cell?_alloc_lt W o _ hh).trans h1, (World.cell?_alloc_lt W o _ hh).trans h2, (World.cell?_alloc_lt W o _ hh).trans h3, (World.cell?_alloc_lt W o _ hh).trans h4, (World.cell?_alloc_lt W o _ hh).trans h5⟩

theorem map_new_no (g : G) (w : World) (hr : g.right = false) : Calls Try.prog 25 #[g.v] w fun r w' => r = .returned (.tuple #[.pointer none, .int .i64 20]) ∧ Below w.heap.size w w' := by
  go_enter Try.func25, Try.ntmps25
  go_wp2_with (go_at_call 47; refine (geom_right_b _ _ _ hr).mono ?_; rintro e w1 ⟨rfl, hb⟩)
  go_ret2
  exact ⟨rfl, below_then (below_box w _) (by simp) hb⟩
set_option maxHeartbeats 2000000 in
theorem map_new_yes (g : G) (w : World) (hr : g.right = true) : Calls Try.prog 25 #[g.v] w (NewPost w g) := by
  have hs := G.small_of_right hr
  have HS := Lib.hid hs
  have b0 := hs.B0
  have b1 := hs.B1
  have a0 := hs.all_le.1
  have a1 := hs.all_le.2
  clear hs
  go_enter Try.func25, Try.ntmps25
  go_wp2_with (go_at_call 47; refine (geom_right_b _ _ _ hr).mono ?_; rintro e w1 ⟨rfl, hb⟩)
  obtain ⟨hc, hf⟩ := bcell hb
  have hz : w.heap.size < w1.heap.size := by have := hb.size; simp at this; omega
  have hz1 : w.heap.size < w1.heap.size + 1 := by omega
  have hz2 : w.heap.size < w1.heap.size + 2 := by omega
  have hz3 : w.heap.size < w1.heap.size + 3 := by omega
  have k0 : w1.cell? ⟨w.heap.size, 0, none⟩ = some (.int .i64 g.D) := by rw [hc _ _ (by simp)]; simp [go_sem]
  have k1 : w1.cell? ⟨w.heap.size, 1, none⟩ = some (.int .i64 g.Z) := by rw [hc _ _ (by simp)]; simp [go_sem]
  have k2 : w1.cell? ⟨w.heap.size, 2, none⟩ = some (.int .i64 g.S) := by rw [hc _ _ (by simp)]; simp [go_sem]
  have k3 : w1.cell? ⟨w.heap.size, 3, none⟩ = some (.int .i64 g.B) := by rw [hc _ _ (by simp)]; simp [go_sem]
  have k4 : w1.cell? ⟨w.heap.size, 4, none⟩ = some (.int .i64 g.P) := by rw [hc _ _ (by simp)]; simp [go_sem]
  have k5 : w1.cell? ⟨w.heap.size, 5, none⟩ = some (.int .i64 g.O) := by rw [hc _ _ (by simp)]; simp [go_sem]
  have hm1 := make_entries g.B (by omega) (by omega)
  have hm2 := make_ints g.all (by omega) (by omega)
  have HB : Hid (Below w.heap.size w w1) := below_then (below_box w _) (by simp) hb
  have kb : BoxIs w.heap.size g w1.drew := ⟨hz, k0, k1, k2, k3, k4, k5⟩
  clear hc hf hb hr
  go_region_held3 (fun w' => w.heap.size < w'.heap.size ∧ w'.cell? ⟨w.heap.size, 0, none⟩ = some (.int .i64 g.D) ∧ w'.cell? ⟨w.heap.size, 1, none⟩ = some (.int .i64 g.Z) ∧ w'.cell? ⟨w.heap.size, 2, none⟩ = some (.int .i64 g.S) ∧ w'.cell? ⟨w.heap.size, 3, none⟩ = some (.int .i64 g.B) ∧ w'.cell? ⟨w.heap.size, 4, none⟩ = some (.int .i64 g.P) ∧ w'.cell? ⟨w.heap.size, 5, none⟩ = some (.int .i64 g.O))
    (first | (go_keep; done) | exact kb.alloc _ | exact (kb.alloc _).alloc _ | exact ((kb.alloc _).alloc _).alloc _ | exact (((kb.alloc _).alloc _).alloc _).alloc _)
    (first | (go_at_call 27; refine (geom_all _ _ HS.out).mono ?_; rintro e w' ⟨rfl, rfl⟩))
  all_goals
    go_wp2
    go_ret2
    refine made_fin HS.out rfl ?_ ?_ ?_
    · omega
    · exact below_drew (((((HB.out).alloc (by omega) _).alloc (by have := hz; simp <;> omega) _).alloc (by have := hz; simp <;> omega) _).alloc (by have := hz; simp <;> omega) _)
    · apply made_blk
      · refine Blk.drew ?_
        refine Blk.newAt ?_
        simp
      · refine Blk.drew ?_
        repeat (first | (refine Blk.newAt ?_; simp; done) | refine Blk.alloc ?_ _)
      · refine Blk.drew ?_
        repeat (first | (refine Blk.newAt ?_; simp; done) | refine Blk.alloc ?_ _)
      · omega
      · omega
end Go.Proofs.Ytcgafnmpfdkfoaa
