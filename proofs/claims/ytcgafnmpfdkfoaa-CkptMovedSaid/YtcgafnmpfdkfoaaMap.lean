/- Maps in memory, and the functions of layer 11 (bmap) that only read or make them. -/
import Derived.Test.YtcgafnmpfdkfoaaGeom
import Derived.Deep.RegionHeld3
import Derived.LaidEqlPtr
import Derived.LaidEql
import Derived.Laws.OwnMore
namespace Go.Proofs.Ytcgafnmpfdkfoaa
open Go.RowKit

abbrev E.cells (e : E) : List Value := [.int .i64 e.st, .int .i64 e.zn, .int .i64 e.mt, .int .i64 e.off, .int .i64 e.sq, .int .i64 e.sm]
abbrev E.v (e : E) : Value := .agg #[.int .i64 e.st, .int .i64 e.zn, .int .i64 e.mt, .int .i64 e.off, .int .i64 e.sq, .int .i64 e.sm]
abbrev E.box (e : E) : Obj := .cells #[.int .i64 e.st, .int .i64 e.zn, .int .i64 e.mt, .int .i64 e.off, .int .i64 e.sq, .int .i64 e.sm] 31
def flat (l : List E) : List Value := l.flatMap E.cells
def nums (xs : List Int) : List Value := xs.map fun x => .int .i64 x

def Blk (w : World) (g : Nat) (t : TypeId) (cs : Array Value) : Prop := w.heap[g]? = some (.cells cs t (0, 0))
/-- A map: its own block, that of its entries, that of its counts. -/
def MapAt (w : World) (p bl bv : Nat) (g : G) (l : List E) (lv : List Int) : Prop :=
  ∃ cl cv, Blk w p 148 #[.int .i64 g.D, .int .i64 g.Z, .int .i64 g.S, .int .i64 g.B, .int .i64 g.P, .int .i64 g.O, .slice (some ⟨bl, 0, none⟩) l.length cl, .slice (some ⟨bv, 0, none⟩) lv.length cv] ∧
    w.ownsRow 0 31 6 (.slice (some ⟨bl, 0, none⟩) l.length cl) l.length (flat l) ∧ w.ownsRow 0 3 1 (.slice (some ⟨bv, 0, none⟩) lv.length cv) lv.length (nums lv)

theorem Blk.lt {w : World} {g : Nat} {t : TypeId} {cs : Array Value} (h : Blk w g t cs) : g < w.heap.size := by
  rcases Nat.lt_or_ge g w.heap.size with hlt | hge
  · exact hlt
  · unfold Blk at h; rw [Array.getElem?_eq_none hge] at h; cases h
theorem Blk.cell {w : World} {g : Nat} {t : TypeId} {cs : Array Value} (h : Blk w g t cs) (i : Nat) : w.cell? ⟨g, i, none⟩ = cs[i]? := cell_of_row w g i cs t (0, 0) h
theorem Blk.frozen {w : World} {g : Nat} {t : TypeId} {cs : Array Value} (h : Blk w g t cs) (i : Nat) : w.frozen? ⟨g, i, none⟩ = false := by
  unfold Blk at h
  simp [World.frozen?, h]

theorem flat_length (l : List E) : (flat l).length = l.length * 6 := by
  induction l with
  | nil => rfl
  | cons e r ih => simp [flat] at ih ⊢; omega
theorem flat_get (l : List E) (i : Nat) (h : i < l.length) (j : Nat) (hj : j < 6) : (flat l)[i * 6 + j]? = (l[i]).cells[j]? := by
  induction l generalizing i with
  | nil => simp at h
  | cons e r ih =>
    have hf : flat (e :: r) = e.cells ++ flat r := rfl
    cases i with
    | zero => rw [hf, List.getElem?_append_left (by simp; omega)]; simp
    | succ i =>
      rw [hf, List.getElem?_append_right (by simp; omega)]
      have := ih i (by simpa using h)
      simpa [show (i + 1) * 6 + j - 6 = i * 6 + j by omega] using this
theorem E_default : (default : Int) = 0 := rfl
/-- What the walk reads of a map. -/
structure MapReads (w : World) (p bl bv cl cv : Nat) (g : G) (l : List E) (lv : List Int) : Prop where
  hp : p < w.heap.size
  hl : bl < w.heap.size
  hv : bv < w.heap.size
  zl : l.length ≤ 9223372036854775807
  zv : lv.length ≤ 9223372036854775807
  g0 : w.cell? ⟨p, 0, none⟩ = some (.int .i64 g.D)
  g1 : w.cell? ⟨p, 1, none⟩ = some (.int .i64 g.Z)
  g2 : w.cell? ⟨p, 2, none⟩ = some (.int .i64 g.S)
  g3 : w.cell? ⟨p, 3, none⟩ = some (.int .i64 g.B)
  g4 : w.cell? ⟨p, 4, none⟩ = some (.int .i64 g.P)
  g5 : w.cell? ⟨p, 5, none⟩ = some (.int .i64 g.O)
  s6 : w.cell? ⟨p, 6, none⟩ = some (.slice (some ⟨bl, 0, none⟩) l.length cl)
  s7 : w.cell? ⟨p, 7, none⟩ = some (.slice (some ⟨bv, 0, none⟩) lv.length cv)
theorem MapAt.reads {w : World} {p bl bv : Nat} {g : G} {l : List E} {lv : List Int} (h : MapAt w p bl bv g l lv) : ∃ cl cv, MapReads w p bl bv cl cv g l lv := by
  obtain ⟨cl, cv, hb, ho, ho'⟩ := h
  have m1 : l.length ≤ 9223372036854775807 := by
    rcases ho.2 with ⟨h', _⟩ | ⟨_, _, _, h', _, _, h1, h2, _⟩
    · cases h'
    · injection h' with _ _ h3; unfold maxLen at h2; omega
  have m2 : lv.length ≤ 9223372036854775807 := by
    rcases ho'.2 with ⟨h', _⟩ | ⟨_, _, _, h', _, _, h1, h2, _⟩
    · cases h'
    · injection h' with _ _ h3; unfold maxLen at h2; omega
  exact ⟨cl, cv, hb.lt, (ho.lt _ rfl).2, (ho'.lt _ rfl).2, m1, m2, by rw [hb.cell]; rfl, by rw [hb.cell]; rfl, by rw [hb.cell]; rfl, by rw [hb.cell]; rfl, by rw [hb.cell]; rfl, by rw [hb.cell]; rfl, by rw [hb.cell]; rfl, by rw [hb.cell]; rfl⟩

/-- What the walk reads of an entry. -/
structure EntReads (w : World) (bl i : Nat) (e : E) : Prop where
  e0 : w.cell? ⟨bl, i * 6, none⟩ = some (.int .i64 e.st)
  e1 : w.cell? ⟨bl, i * 6 + 1, none⟩ = some (.int .i64 e.zn)
  e2 : w.cell? ⟨bl, i * 6 + 2, none⟩ = some (.int .i64 e.mt)
  e3 : w.cell? ⟨bl, i * 6 + 3, none⟩ = some (.int .i64 e.off)
  e4 : w.cell? ⟨bl, i * 6 + 4, none⟩ = some (.int .i64 e.sq)
  e5 : w.cell? ⟨bl, i * 6 + 5, none⟩ = some (.int .i64 e.sm)
theorem own_ent {w : World} {base bl c : Nat} {t : TypeId} {l : List E} (h : w.ownsRow base t 6 (.slice (some ⟨bl, 0, none⟩) l.length c) l.length (flat l)) {i : Nat} {e : E} (he : l[i]? = some e) : EntReads w bl i e := by
  obtain ⟨hi, rfl⟩ := List.getElem?_eq_some_iff.1 he
  have key : ∀ j, j < 6 → w.cell? ⟨bl, i * 6 + j, none⟩ = (l[i]).cells[j]? := fun j hj => by
    rw [h.cellAt _ (by omega)]; exact flat_get l i hi j hj
  exact ⟨key 0 (by omega), key 1 (by omega), key 2 (by omega), key 3 (by omega), key 4 (by omega), key 5 (by omega)⟩
theorem MapAt.ent {w : World} {p bl bv : Nat} {g : G} {l : List E} {lv : List Int} (h : MapAt w p bl bv g l lv) {i : Nat} {e : E} (he : l[i]? = some e) : EntReads w bl i e := by
  obtain ⟨_, _, _, h, _⟩ := h
  exact own_ent h he
theorem MapAt.count {w : World} {p bl bv : Nat} {g : G} {l : List E} {lv : List Int} (h : MapAt w p bl bv g l lv) {z : Int} (h0 : 0 ≤ z) (h1 : z < lv.length) : w.cell? ⟨bv, z.toNat, none⟩ = some (.int .i64 (rdI lv z)) := by
  obtain ⟨_, _, _, _, h⟩ := h
  rw [h.cellAt _ (by omega)]
  unfold nums rdI
  rw [List.getElem?_map, List.getElem?_eq_getElem (show z.toNat < lv.length by omega), List.getD_eq_getElem?_getD, List.getElem?_eq_getElem (show z.toNat < lv.length by omega)]
  rfl

theorem map_get (w : World) (p bl bv : Nat) (g : G) (l : List E) (lv : List Int) (h : MapAt w p bl bv g l lv) (b : Int) (e : E) (h0 : 0 ≤ b) (he : l[b.toNat]? = some e) :
    Calls Try.prog 30 #[.pointer (some ⟨p, 0, none⟩), .int .i64 b] w fun r w' => r = .returned (.tuple #[e.v, .int .i64 0]) ∧ Below w.heap.size w w' := by
  obtain ⟨cl, cv, hp, hl, hv, zl, zv, _, _, _, _, _, _, s6, s7⟩ := h.reads
  obtain ⟨e0, e1, e2, e3, e4, e5⟩ := h.ent he
  have h1 : b < l.length := by have := (List.getElem?_eq_some_iff.1 he).1; omega
  clear h he
  go_enter Try.func30, Try.ntmps30
  go_wp2
  exact bodyPost_ret (v := .tuple #[e.v, .int .i64 0]) (by simp [results, Try.results30, go_sem]) rfl ⟨rfl, below_box _ _⟩
theorem map_get_no (w : World) (p bl bv : Nat) (g : G) (l : List E) (lv : List Int) (h : MapAt w p bl bv g l lv) (b : Int) (hb : b < 0 ∨ l.length ≤ b) :
    Calls Try.prog 30 #[.pointer (some ⟨p, 0, none⟩), .int .i64 b] w fun r w' => r = .returned (.tuple #[E0.v, .int .i64 13]) ∧ Below w.heap.size w w' := by
  obtain ⟨cl, cv, hp, hl, hv, zl, zv, _, _, _, _, _, _, s6, s7⟩ := h.reads
  clear h
  rcases hb with hb | hb
  · go_enter Try.func30, Try.ntmps30
    go_wp2
    exact bodyPost_ret (v := .tuple #[E0.v, .int .i64 13]) (by simp [results, Try.results30, go_sem, E0]) rfl ⟨rfl, below_box _ _⟩
  · have hb' : 0 ≤ b := by omega
    go_enter Try.func30, Try.ntmps30
    go_wp2
    exact bodyPost_ret (v := .tuple #[E0.v, .int .i64 13]) (by simp [results, Try.results30, go_sem, E0]) rfl ⟨rfl, below_box _ _⟩
theorem map_live (w : World) (p bl bv : Nat) (g : G) (l : List E) (lv : List Int) (h : MapAt w p bl bv g l lv) (z : Int) (h0 : 0 ≤ z) (h1 : z < lv.length) :
    Calls Try.prog 28 #[.pointer (some ⟨p, 0, none⟩), .int .i64 z] w fun r w' => r = .returned (.int .i64 (rdI lv z)) ∧ w = w' := by
  obtain ⟨cl, cv, hp, hl, hv, zl, zv, _, _, _, _, _, _, s6, s7⟩ := h.reads
  have hc := h.count h0 h1
  clear h
  go_enter Try.func28, Try.ntmps28
  go_wp2
  go_ret
  exact ⟨rfl, rfl⟩
theorem map_live_no (w : World) (p bl bv : Nat) (g : G) (l : List E) (lv : List Int) (h : MapAt w p bl bv g l lv) (z : Int) (hz : z < 0 ∨ lv.length ≤ z) :
    Calls Try.prog 28 #[.pointer (some ⟨p, 0, none⟩), .int .i64 z] w fun r w' => r = .returned (.int .i64 0) ∧ w = w' := by
  obtain ⟨cl, cv, hp, hl, hv, zl, zv, _, _, _, _, _, _, s6, s7⟩ := h.reads
  clear h
  rcases hz with hz | hz
  · go_enter Try.func28, Try.ntmps28
    go_wp2
    go_ret
    exact ⟨rfl, rfl⟩
  · have hz' : 0 ≤ z := by omega
    go_enter Try.func28, Try.ntmps28
    go_wp2
    go_ret
    exact ⟨rfl, rfl⟩
theorem map_geom (w : World) (p bl bv : Nat) (g : G) (l : List E) (lv : List Int) (h : MapAt w p bl bv g l lv) :
    Calls Try.prog 32 #[.pointer (some ⟨p, 0, none⟩)] w fun r w' => r = .returned g.v ∧ Below w.heap.size w w' := by
  obtain ⟨cl, cv, hp, hl, hv, zl, zv, g0, g1, g2, g3, g4, g5, s6, s7⟩ := h.reads
  clear h
  go_enter Try.func32, Try.ntmps32
  go_wp2
  exact bodyPost_ret (v := g.v) (by simp [results, Try.results32, go_sem]) rfl ⟨rfl, below_box _ _⟩
end Go.Proofs.Ytcgafnmpfdkfoaa
